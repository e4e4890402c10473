/- Walks: a number trimmed, the program's and the document's; are numbers the same?. -/
import Derived.Test.YtcghgkagpkmpeaaGreatDoorStDe1
import Derived.Test.YtcghgkagpkmpeaaGreatDoorJItW
import Derived.Test.YtcghgkagpkmpeaaGreatDoorJStW
set_option linter.unusedVariables false
set_option linter.unusedSimpArgs false
set_option maxHeartbeats 8000000
namespace Go.Proofs.YtcghgkagpkmpeaaGreatDoor.Loc
open Go.RowKit Utf All Small Strs Build EncC Pat Cls Dec Go.Proofs.YtcghgkagpkmpeaaGreatDoor.Sys
theorem infoDec:(Tryz.prog.info? 59).map (·.size)=some 3:=by kernel_rfl
theorem infoDec6:(Tryz.prog.info? 64).map (·.size)=some 3:=by kernel_rfl
def zeroN:List Value:=[.bool false,.slice none 0 0,.int .i64 0]
theorem tail_step {L:List Int} {n sc:Nat} (h1:1≤n) (hn:n≤L.length) (h0:0 < sc) (hz:L.getD (n - 1) 0=0):tailF sc (L.take n)=tailF (sc - 1) (L.take (n - 1)):=by
 have hl:(L.take n).getLast? = some 0:=by
  rw [List.getLast?_eq_getElem?, List.length_take,Nat.min_eq_left hn,List.getElem?_take_of_lt (by omega),List.getElem?_eq_getElem (by omega)]
  rw [List.getD_eq_getElem?_getD,List.getElem?_eq_getElem (by omega)] at hz
  exact congrArg some hz
 have hd:(L.take n).dropLast=L.take (n - 1):=by rw [List.dropLast_eq_take,List.length_take,Nat.min_eq_left hn,List.take_take,Nat.min_eq_left (by omega)]
 rw [tailF_go h0 hl,hd]
theorem tail_halt {L:List Int} {n sc:Nat} (h1:1≤n) (hn:n≤L.length) (h:¬ (0 < sc∧L.getD (n - 1) 0=0)):tailF sc (L.take n)=(L.take n,sc):=by
 refine tailF_stop fun hh=>h ⟨hh.1,?_⟩
 have hl:=hh.2
 rw [List.getLast?_eq_getElem?, List.length_take,Nat.min_eq_left hn,List.getElem?_take_of_lt (by omega),List.getElem?_eq_getElem (by omega)] at hl
 rw [List.getD_eq_getElem?_getD,List.getElem?_eq_getElem (by omega)]
 exact Option.some.inj hl
theorem lead_first {xs:List Int} (h:leadF xs ≠ []):(leadF xs).getD 0 0 ≠ 0:=by
 cases hl:leadF xs with
 | nil=>exact absurd hl h
 | cons x r=>exact leadF_head hl
def lenV:Value→Nat
 | .slice _ n _=>n
 | _=>0
theorem ints_off {w:World} {b:Nat} {A:Option Addr} {xs:List Int} (hr:Row w A (xs.map (Value.int .i64))) (hne:∀ a,A=some a→a.block ≠ b) {w':World} (hw:∀ k off,k ≠ b→w'.cell? ⟨k,off,none⟩=w.cell? ⟨k,off,none⟩):Row w' A (xs.map (Value.int .i64)):=by
 rcases hr with h | ⟨b',off,rfl,hc⟩
 ·exact .inl h
 ·exact .inr ⟨b',off,rfl,fun j v hv=>(hw _ _ (hne _ rfl)).trans (hc j v hv)⟩
set_option maxRecDepth 100000
theorem decimal_trim (neg:Bool) (A:Option Addr) (c:Nat) (xs:List Int) (s0:Nat) (w:World) (hr:Row w A (xs.map (Value.int .i64))) (hok:Okc A c) (hc:xs.length≤c) (hl:xs.length≤1000000) (hs:s0≤1000000) :
  Calls Tryz.prog 98 #[.agg ([.bool neg,.slice A xs.length c,.int .i64 (s0:Int)]:List Value).toArray] w fun e w'=>∃ B d,e=.returned (.agg ([.bool (trimF neg xs s0).1,.slice B (trimF neg xs s0).2.1.length d,.int .i64 ((trimF neg xs s0).2.2:Int)]:List Value).toArray)∧Row w' B ((trimF neg xs s0).2.1.map (Value.int .i64))∧Ext w w'∧Fresh w B:=by
 have b1:=(Box.new w 59 [.bool neg,.slice A xs.length c,.int .i64 (s0:Int)]).alloc (.cells zeroN.toArray 59)
 have c1:=Box.new (w.alloc (.cells ([.bool neg,.slice A xs.length c,.int .i64 (s0:Int)]:List Value).toArray 59)) 59 zeroN
 have hs1:(w.alloc (.cells ([.bool neg,.slice A xs.length c,.int .i64 (s0:Int)]:List Value).toArray 59)).heap.size=w.heap.size+1:=by simp
 rw [hs1] at c1
 have hx1:Ext w ((w.alloc (.cells ([.bool neg,.slice A xs.length c,.int .i64 (s0:Int)]:List Value).toArray 59)).alloc (.cells zeroN.toArray 59)):=Ext.alloc_ (Ext.alloc_ (Ext.refl w) _) _
 have hsz:((w.alloc (.cells ([.bool neg,.slice A xs.length c,.int .i64 (s0:Int)]:List Value).toArray 59)).alloc (.cells zeroN.toArray 59)).heap.size=w.heap.size+2:=by simp
 have HSZ:=Lib.hid hsz
 have HB1:=Lib.hid b1
 have HC1:=Lib.hid c1
 have HX1:=Lib.hid hx1
 have k1:=b1.cell (j:=1) (v:=.slice A xs.length c) rfl
 have HT:=Lib.hid (digit_trim A c xs _ (hr.below hx1 (Nat.le_refl _)) hok hc (by omega))
 have HTR:Hid (trimF neg xs s0=if leadF xs=[] then (false,[],0) else (neg,(tailF s0 (leadF xs)).1,(tailF s0 (leadF xs)).2)):=Lib.hid rfl
 have HLF:=Lib.hid (lead_first (xs:=xs))
 have hll:(leadF xs).length≤xs.length:=by unfold leadF;rw [List.length_drop];omega
 have hl2:(leadF xs).length≤1000000:=by omega
 clear b1 c1 hs1 hx1 hr hok hsz hll
 generalize trimF neg xs s0=tr at *
 generalize leadF xs=L at *
 go_enter Tryz.func98,Tryz.ntmps98
 go_upto_region 1 with fail
 change Code.wp _ _ _ _ ((w.alloc (.cells ([.bool neg,.slice A xs.length c,.int .i64 (s0:Int)]:List Value).toArray 59)).alloc (.cells zeroN.toArray 59))
 generalize (w.alloc (.cells ([.bool neg,.slice A xs.length c,.int .i64 (s0:Int)]:List Value).toArray 59)).alloc (.cells zeroN.toArray 59)=w1 at *
 generalize hdb:w.heap.size=db at *
 have HDB:=Lib.hid hdb
 clear hdb
 go_wp2_with (go_at_call 169;with_reducible refine HT.out.mono ?_;rintro e w3 ⟨B,d,rfl,hA⟩)
 have hfr:∀ a,B=some a→a.block ≠ db∧a.block ≠ db+1∧db≤a.block:=fun a ha=>by
  subst ha
  have h1:=(hA.own.lt a.block rfl).1
  have:=HSZ.out
  omega
 have HFR:=Lib.hid hfr
 have hcap:=hA.cap
 have HR3:=Lib.hid hA.row
 have HB3:=Lib.hid (HB1.out.ext hA.ext)
 have HC3:=Lib.hid (HC1.out.ext hA.ext)
 have HX3:=Lib.hid (HX1.out.trans hA.ext)
 clear hA hfr HT k1 HB1 HC1 HX1 HSZ
 generalize hLL:L.length=LL at *
 have HLL:=Lib.hid hLL
 clear hLL
 go_loopw [3] (fun v wr=>∃ n sc:Nat,n≤LL∧sc≤s0∧(L ≠ []→1≤n)∧v=.slice B n d∧Hid (tailF s0 L=tailF sc (L.take n))∧Box wr db 59 [.bool neg,.slice A xs.length c,.int .i64 (sc:Int)]∧Box wr (db+1) 59 zeroN∧Row wr B (L.map (Value.int .i64))∧Ext w wr) (fun v _=>lenV v)
 case atStart=>exact ⟨LL,s0,Nat.le_refl _,Nat.le_refl _,fun h=>by have:=HLL.out;cases L with | nil=>exact absurd rfl h | cons x r=>(rw [List.length_cons] at this;omega),rfl,Lib.hid (by rw [← HLL.out,List.take_length]),HB3.out,HC3.out,HR3.out,HX3.out⟩
 case round =>
  obtain ⟨n,sc,hn,hsc,hn1,rfl,HTL,hbx,hcx,hrow,hx⟩:=hrel
  have hd:n≤d:=by omega
  have q2:=hbx.cell (j:=2) (v:=.int .i64 (sc:Int)) rfl
  have f2:=hbx.frozen 2
  have HBX:=Lib.hid hbx
  have HCX:=Lib.hid hcx
  have HRW:=Lib.hid hrow
  have HX:=Lib.hid hx
  by_cases hL:L=[]
  ·have hn0:n=0:=by have:=HLL.out;rw [hL] at this;simp at this;omega
   subst hn0
   have HZ:Hid (tr=(false,[],0)):=Lib.hid (by rw [HTR.out,if_pos hL])
   clear hbx hcx hrow hx hn1 hL
   have q0:=HBX.out.cell (j:=0) (v:=.bool neg) rfl
   by_cases h0:0 < sc
   ·have i1:(0:Int) < (sc:Int):=by omega
    clear h0
    go_wp2_with (refine wpList_store_row rfl 59 (.tmp 2) (.tmp 36) rfl (db+1) zeroN.toArray rfl rfl _ _ HCX.out infoDec rfl (by simp [Value.oneCell',zeroN]) ?_)
    have hb9:=HCX.out.set zeroN.toArray
    refine bodyPost_ret (v:=.agg zeroN.toArray) (results_cell_row rfl _ _ (db+1) _ _ _ _ rfl hb9 Tryz.underlying59 rfl infoDec) rfl ?_
    first
     | exact ⟨none,0,by rw [HZ.out];rfl,by rw [HZ.out];exact .inl rfl,Ext.setRow HX.out (by have:=HDB.out;omega) _,fun a h=>by cases h⟩
     | exact ⟨none,⟨0,by rw [HZ.out];rfl⟩,by rw [HZ.out];exact .inl rfl,Ext.setRow HX.out (by have:=HDB.out;omega) _,fun a h=>by cases h⟩
   ·have i1:¬ ((0:Int) < (sc:Int)):=by omega
    clear h0
    go_wp2_with (refine wpList_store_row rfl 59 (.tmp 2) (.tmp 36) rfl (db+1) zeroN.toArray rfl rfl _ _ HCX.out infoDec rfl (by simp [Value.oneCell',zeroN]) ?_)
    have hb9:=HCX.out.set zeroN.toArray
    refine bodyPost_ret (v:=.agg zeroN.toArray) (results_cell_row rfl _ _ (db+1) _ _ _ _ rfl hb9 Tryz.underlying59 rfl infoDec) rfl ?_
    first
     | exact ⟨none,0,by rw [HZ.out];rfl,by rw [HZ.out];exact .inl rfl,Ext.setRow HX.out (by have:=HDB.out;omega) _,fun a h=>by cases h⟩
     | exact ⟨none,⟨0,by rw [HZ.out];rfl⟩,by rw [HZ.out];exact .inl rfl,Ext.setRow HX.out (by have:=HDB.out;omega) _,fun a h=>by cases h⟩
  ·have hn2:=hn1 hL
   obtain ⟨b,off,hB,hcn⟩:=row_ints hrow (k:=n - 1) (by have:=HLL.out;omega)
   subst hB
   have hlast:=HLF.out hL
   have HST:=Lib.hid (tail_step (L:=L) (n:=n) (sc:=sc) hn2 (by have:=HLL.out;omega))
   have HHL:=Lib.hid (tail_halt (L:=L) (n:=n) (sc:=sc) hn2 (by have:=HLL.out;omega))
   have hone:L.getD (n - 1) 0=0→2≤n:=fun hz=>by
    by_cases h1:n=1
    ·subst h1;exact absurd hz hlast
    ·omega
   have HON:=Lib.hid hone
   have i2:(0:Int) < (n:Int):=by omega
   have i3:(0:Int)≤(n:Int) - 1:=by omega
   have i4:(n:Int) - 1 < (n:Int):=by omega
   have i5:((n:Int) - 1).toNat=n - 1:=by omega
   have i6:(n:Int) - 1≤(d:Int):=by omega
   have i7:(n:Int)≤(d:Int):=by omega
   have hnz:((n:Int) == 0)=false:=by simp;omega
   have HTRN:Hid (tr=(neg,(tailF s0 L).1,(tailF s0 L).2)):=Lib.hid (by rw [HTR.out,if_neg hL])
   have HLQ:=Lib.hid hL
   clear hbx hcx hrow hx hn1 hlast hone hL
   generalize L.getD (n - 1) 0=x at *
   have q0:=HBX.out.cell (j:=0) (v:=.bool neg) rfl
   by_cases hgo:0 < sc∧x=0
   ·have h2:=HON.out hgo.2
    have HST2:=Lib.hid (HST.out hgo.1 hgo.2)
    obtain ⟨h0,hx0⟩:=hgo
    subst hx0
    have i1:(0:Int) < (sc:Int):=by omega
    have HB9:Hid (Box (World.setCell wr.drew ⟨db,2,none⟩ (.int .i64 ((sc:Int) - 1))) db 59 [.bool neg,.slice A xs.length c,.int .i64 (((sc - 1:Nat)):Int)]):=Lib.hid (by
     have hh:=(HBX.out.drew).setCell 2 (.int .i64 ((sc:Int) - 1))
     have e:((sc:Int) - 1)=(((sc - 1:Nat)):Int):=by omega
     rw [e] at hh ⊢
     exact hh)
    have HC9:Hid (Box (World.setCell wr.drew ⟨db,2,none⟩ (.int .i64 ((sc:Int) - 1))) (db+1) 59 zeroN):=Lib.hid (HCX.out.drew.setCell1 db (.int .i64 ((sc:Int) - 1)) (by omega) 2)
    have HR9:Hid (Row (World.setCell wr.drew ⟨db,2,none⟩ (.int .i64 ((sc:Int) - 1))) (some ⟨b,off,none⟩) (L.map (Value.int .i64))):=Lib.hid (ints_off (HRW.out.below (Ext.drew_ (Ext.refl wr)) (Nat.le_refl _)) (fun a ha=>(HFR.out a ha).1) (fun k off hk=>World.cell?_of_block (heap_setCell_other _ _ k _ hk)))
    have HX9:Hid (Ext w (World.setCell wr.drew ⟨db,2,none⟩ (.int .i64 ((sc:Int) - 1)))):=Lib.hid (Ext.setCell_ (HX.out.trans (Ext.drew_ (Ext.refl wr))) (by have:=HDB.out;omega) 2 _)
    go_upto_region 3 with fail
    have i8:(1:Int)≤(n:Int):=by omega
    have kw1:IntKind.i64.wrap ((n:Int) - 1)=(n:Int) - 1:=by rw [IntKind.wrap_i64];omega
    have kw2:IntKind.i64.wrap ((sc:Int) - 1)=(sc:Int) - 1:=by rw [IntKind.wrap_i64];omega
    refine wp_region_noPanic ?_
    refine wp_region_Z (S:=fun W=>W.cell? ⟨db,2,none⟩=some (.int .i64 (sc:Int))∧W.frozen? ⟨db,2,none⟩=false) 10 (by kernel_rfl) ?_ (fun hHeld=>?_)
    ·exact ⟨q2,f2⟩
    refine takeZ_ 0 (v:=?_) rfl (by kernel_rfl) (by kernel_rfl) (by kernel_rfl) (by kernel_rfl) (by kernel_rfl) (by decide) (fun _ _ _ h=>h) hHeld (by rfl) ?_ ?_
    rotate_left 1
    ·(intro w hSw;(try dsimp only at hSw);go_simp;all_goals with_reducible rfl)
    try simp only [Act.put,sA,sZ,sS]
    refine takeZ_ 1 (v:=?_) rfl (by kernel_rfl) (by kernel_rfl) (by kernel_rfl) (by kernel_rfl) (by kernel_rfl) (by decide) (fun _ _ _ h=>h) hHeld (by rfl) ?_ ?_
    rotate_left 1
    ·(intro w hSw;(try dsimp only at hSw);go_simp;all_goals with_reducible rfl)
    try simp only [Act.put,sA,sZ,sS]
    refine takeZ_ 2 (v:=?_) rfl (by kernel_rfl) (by kernel_rfl) (by kernel_rfl) (by kernel_rfl) (by kernel_rfl) (by decide) (fun _ _ _ h=>h) hHeld (by rfl) ?_ ?_
    rotate_left 1
    ·(intro w hSw;(try dsimp only at hSw);go_simp;all_goals with_reducible rfl)
    try simp only [Act.put,sA,sZ,sS]
    refine takeZ_ 3 (v:=?_) rfl (by kernel_rfl) (by kernel_rfl) (by kernel_rfl) (by kernel_rfl) (by kernel_rfl) (by decide) (fun _ _ _ h=>h) hHeld (by rfl) ?_ ?_
    rotate_left 1
    ·(intro w hSw;(try dsimp only at hSw);go_simp;all_goals with_reducible rfl)
    try simp only [Act.put,sA,sZ,sS]
    refine takeZ_ 4 (v:=?_) rfl (by kernel_rfl) (by kernel_rfl) (by kernel_rfl) (by kernel_rfl) (by kernel_rfl) (by decide) (fun _ _ _ h=>h) hHeld (by rfl) ?_ ?_
    rotate_left 1
    ·(intro w hSw;(try dsimp only at hSw);go_simp;all_goals with_reducible rfl)
    try simp only [Act.put,sA,sZ,sS]
    refine takeZ_ 5 (v:=?_) rfl (by kernel_rfl) (by kernel_rfl) (by kernel_rfl) (by kernel_rfl) (by kernel_rfl) (by decide) (fun _ _ _ h=>h) hHeld (by rfl) ?_ ?_
    rotate_left 1
    ·(intro w hSw;(try dsimp only at hSw);go_simp;all_goals with_reducible rfl)
    try simp only [Act.put,sA,sZ,sS]
    refine takeZ_ 6 (v:=?_) rfl (by kernel_rfl) (by kernel_rfl) (by kernel_rfl) (by kernel_rfl) (by kernel_rfl) (by decide) (fun _ _ _ h=>h) hHeld (by rfl) ?_ ?_
    rotate_left 1
    ·(intro w hSw;(try dsimp only at hSw);go_simp;all_goals with_reducible rfl)
    try simp only [Act.put,sA,sZ,sS]
    refine takeZ_ 7 (v:=?_) rfl (by kernel_rfl) (by kernel_rfl) (by kernel_rfl) (by kernel_rfl) (by kernel_rfl) (by decide) (fun _ _ _ h=>h) hHeld (by rfl) ?_ ?_
    rotate_left 1
    ·(intro w hSw;(try dsimp only at hSw);go_simp;all_goals with_reducible rfl)
    try simp only [Act.put,sA,sZ,sS]
    refine takeZ_ 8 (v:=?_) rfl (by kernel_rfl) (by kernel_rfl) (by kernel_rfl) (by kernel_rfl) (by kernel_rfl) (by decide) (fun _ _ _ h=>h) hHeld (by rfl) ?_ ?_
    rotate_left 1
    ·(intro w hSw;(try dsimp only at hSw);go_simp;all_goals with_reducible rfl)
    try simp only [Act.put,sA,sZ,sS]
    refine takeZ_ 9 (v:=?_) rfl (by kernel_rfl) (by kernel_rfl) (by kernel_rfl) (by kernel_rfl) (by kernel_rfl) (by decide) (fun _ _ _ h=>h) hHeld (by rfl) ?_ ?_
    rotate_left 1
    ·(intro w hSw;(try dsimp only at hSw);go_simp;all_goals with_reducible rfl)
    try simp only [Act.put,sA,sZ,sS]
    refine onlyZ_ 10 rfl (by kernel_rfl) (fun K1 hK1=>?_)
    go_simp
    refine hK1.out _ _ (fun h=>absurd rfl h) (fun hHeld=>?_)
    clear hK1
    try simp only [Act.put,sA,sZ,sS]
    refine wpAnyZ_done (by kernel_rfl) ?_ _
    refine NoPanic.normal ?_
    clear kw1 kw2
    go_wp2
    go_roundw
    case rel=>exact ⟨n - 1,sc - 1,by omega,by omega,fun _=>by omega,by first | rfl | (simp;omega),Lib.hid (by rw [HTL.out,HST2.out]),HB9.out,HC9.out,HR9.out,HX9.out⟩
    case measure=>simp [lenV];omega
   ·have HHL2:=Lib.hid (HHL.out hgo)
    have HZ:Hid (tr=(neg,L.take n,sc)):=Lib.hid (by rw [HTRN.out,HTL.out,HHL2.out])
    have HTK:Hid ((L.take n).length=n):=Lib.hid (by rw [List.length_take];have:=HLL.out;omega)
    have HRT:Hid (∀ W,W=wr.setRow (db+1) ([.bool neg,.slice (some ⟨b,off,none⟩) n d,.int .i64 (sc:Int)]:List Value).toArray→Row W (some ⟨b,off,none⟩) ((L.take n).map (Value.int .i64))):=Lib.hid fun W hW=>by
     subst hW
     have h1:=ints_off HRW.out (fun a ha=>(HFR.out a ha).2.1) (w':=wr.setRow (db+1) ([.bool neg,.slice (some ⟨b,off,none⟩) n d,.int .i64 (sc:Int)]:List Value).toArray) (fun k off hk=>World.cell?_of_block (setRow_other wr (db+1) k _ hk))
     have h2:=Row.take (k:=n) h1
     rw [List.map_take];exact h2
    by_cases h0:0 < sc
    ·have i1:(0:Int) < (sc:Int):=by omega
     have hxn:(x == 0)=false:=by
      have:x ≠ 0:=fun h=>hgo ⟨h0,h⟩
      simpa using this
     clear hgo h0 HON HST HHL
     go_wp2_with (refine wpList_store_row rfl 59 (.tmp 2) (.tmp 42) rfl (db+1) ([.bool neg,.slice (some ⟨b,off,none⟩) n d,.int .i64 (sc:Int)]:List Value).toArray rfl rfl _ _ HCX.out infoDec rfl (by simp [Value.oneCell']) ?_)
     have hb9:=HCX.out.set ([.bool neg,.slice (some ⟨b,off,none⟩) n d,.int .i64 (sc:Int)]:List Value).toArray
     refine bodyPost_ret (v:=.agg ([.bool neg,.slice (some ⟨b,off,none⟩) n d,.int .i64 (sc:Int)]:List Value).toArray) (results_cell_row rfl _ _ (db+1) _ _ _ _ rfl hb9 Tryz.underlying59 rfl infoDec) rfl ?_
     first
      | exact ⟨some ⟨b,off,none⟩,d,by rw [HZ.out];simp only [HTK.out],by rw [HZ.out];exact HRT.out _ rfl,Ext.setRow HX.out (by have:=HDB.out;omega) _,fun a ha=>by have:=(HFR.out a ha).2.2;have:=HDB.out;omega⟩
      | exact ⟨some ⟨b,off,none⟩,⟨d,by rw [HZ.out];simp only [HTK.out]⟩,by rw [HZ.out];exact HRT.out _ rfl,Ext.setRow HX.out (by have:=HDB.out;omega) _,fun a ha=>by have:=(HFR.out a ha).2.2;have:=HDB.out;omega⟩
    ·have i1:¬ ((0:Int) < (sc:Int)):=by omega
     clear hgo h0 HON HST HHL
     go_wp2_with (refine wpList_store_row rfl 59 (.tmp 2) (.tmp 42) rfl (db+1) ([.bool neg,.slice (some ⟨b,off,none⟩) n d,.int .i64 (sc:Int)]:List Value).toArray rfl rfl _ _ HCX.out infoDec rfl (by simp [Value.oneCell']) ?_)
     have hb9:=HCX.out.set ([.bool neg,.slice (some ⟨b,off,none⟩) n d,.int .i64 (sc:Int)]:List Value).toArray
     refine bodyPost_ret (v:=.agg ([.bool neg,.slice (some ⟨b,off,none⟩) n d,.int .i64 (sc:Int)]:List Value).toArray) (results_cell_row rfl _ _ (db+1) _ _ _ _ rfl hb9 Tryz.underlying59 rfl infoDec) rfl ?_
     first
      | exact ⟨some ⟨b,off,none⟩,d,by rw [HZ.out];simp only [HTK.out],by rw [HZ.out];exact HRT.out _ rfl,Ext.setRow HX.out (by have:=HDB.out;omega) _,fun a ha=>by have:=(HFR.out a ha).2.2;have:=HDB.out;omega⟩
      | exact ⟨some ⟨b,off,none⟩,⟨d,by rw [HZ.out];simp only [HTK.out]⟩,by rw [HZ.out];exact HRT.out _ rfl,Ext.setRow HX.out (by have:=HDB.out;omega) _,fun a ha=>by have:=(HFR.out a ha).2.2;have:=HDB.out;omega⟩
end Go.Proofs.YtcghgkagpkmpeaaGreatDoor.Loc
