/- Walks: a draft's number, the document's; are numbers the same? -/
import Derived.Test.YtcghgkagpkmpeaaGreatDoorStDe3
import Derived.Test.YtcghgkagpkmpeaaGreatDoorJStW
set_option linter.unusedVariables false
set_option linter.unusedSimpArgs false
set_option maxHeartbeats 8000000
namespace Go.Proofs.YtcghgkagpkmpeaaGreatDoor.Loc
open Go.RowKit Utf All Small Strs Build EncC Pat Cls Dec Go.Proofs.YtcghgkagpkmpeaaGreatDoor.Sys
set_option maxRecDepth 100000
theorem ref05_trim (A:Option Addr) (c:Nat) (xs:List Int) (w:World) (hr:Row w A (xs.map (Value.int .i64))) (hok:Okc A c) (hc:xs.length≤c) (hl:xs.length≤1000000) :
  Calls Tryz.prog 100 #[.slice A xs.length c] w fun e w'=>∃ B d,e=.returned (.slice B (leadF xs).length d)∧Acc 3 1 w w' B d (leadF xs).length ((leadF xs).map (Value.int .i64)):=by
 have HZE:=Lib.hid (fun k (hk:k≤xs.length) h1 h2=>zerosF_eq (l:=xs) (k:=k) hk h1 h2)
 have HR:=Lib.hid hr
 have HOK:=Lib.hid hok
 have HLD:Hid (∀ k,zerosF xs=k→leadF xs=xs.drop k):=Lib.hid fun k h=>by unfold leadF;rw [h]
 clear hr hok
 go_enter Tryz.func100,Tryz.ntmps100
 go_wp2
 go_loop [3] (fun i=>∃ k:Nat,k≤xs.length∧i=.int .i64 k∧Hid (∀ j,j < k→xs.getD j 0=0)) (fun i=>xs.length - (intOf i).toNat)
 case atStart=>exact ⟨0,Nat.zero_le _,rfl,Lib.hid (fun j h=>by omega)⟩
 case round =>
  obtain ⟨k,hk,rfl,HK⟩:=hrel
  by_cases hlt:k < xs.length
  ·obtain ⟨b,off,rfl,hcc⟩:=row_ints HR.out hlt
   have i1:(k:Int) < (xs.length:Int):=by omega
   have i2:(0:Int)≤(k:Int):=by omega
   by_cases hx:xs.getD k 0=0
   ·have HK2:Hid (∀ j,j < k+1→xs.getD j 0=0):=Lib.hid (fun j h=>by
     by_cases e:j=k
     ·rw [e];exact hx
     ·exact HK.out j (by omega))
    rw [hx] at hcc
    clear hx
    go_wp2
    go_round
    case rel=>exact ⟨k+1,by omega,by go_num,HK2⟩
    case measure=>simp [intOf];omega
   ·have hd:=HLD.out k (HZE.out k hk HK.out (fun _=>hx))
    have HD:=Lib.hid hd
    have hll:(leadF xs).length=xs.length - k:=by rw [hd,List.length_drop]
    have HLL:=Lib.hid hll
    have hne:(xs.getD k 0 == 0)=false:=by simpa using hx
    have HT:=Lib.hid (row_tail HR.out k)
    have HTO:=Lib.hid (okc_tail (k:=k) HOK.out)
    have HTL:Hid (((xs.drop k).map (Value.int .i64)).length=(xs.length - k) * 1):=Lib.hid (by simp)
    have HT1:=Lib.hid (ints_one (xs.drop k))
    clear hx hd hll
    generalize xs.getD k 0=x at *
    generalize hds:(xs.drop k).map (Value.int .i64)=ds at *
    have HDS:=Lib.hid hds
    clear hds
    have i3:(k:Int)≤(xs.length:Int):=by omega
    have i4:(xs.length:Int)≤(c:Int):=by omega
    have i5:¬ (c=k):=by omega
    have i6:(k:Int) < (c:Int):=by omega
    go_wp2_with (at_builtin;refine wp_src ei_int rfl (.tmp 18) (.tmp 21) rfl w _ none 0 0 [] rfl (Acc.start _ _ _) (some ⟨b,off+k,none⟩) (xs.length - k) (c - k) ds rfl HT.out HTO.out HTL.out HT1.out (by omega) (by unfold maxLen;omega) ?_;intro A1 c1 w3 hacc3 _)
    go_ret
    rw [List.nil_append,Nat.zero_add] at hacc3
    exact ⟨A1,c1,by rw [HLL.out];first | done | rfl,by rw [HLL.out,HD.out];first | exact hacc3 | (rw [HDS.out];exact hacc3)⟩
  ·have e:k=xs.length:=by omega
   subst e
   have hd:=HLD.out _ (HZE.out _ (Nat.le_refl _) HK.out (fun h=>absurd h (Nat.lt_irrefl _)))
   rw [List.drop_length] at hd
   have HD:=Lib.hid hd
   clear hd HLD HZE HK
   have i1:¬ ((xs.length:Int) < (xs.length:Int)):=by omega
   by_cases hx0:xs=[]
   ·subst hx0
    clear HR
    simp only [List.length_nil] at *
    rcases A with _ | ⟨b,off,sp⟩
    ·have hc0:=HOK.out.2 rfl
     subst hc0
     go_wp2_with (at_builtin;refine wp_src ei_int rfl (.tmp 18) (.tmp 21) rfl w _ none 0 0 [] rfl (Acc.start _ _ _) none 0 0 [] rfl (.inl rfl) ⟨Nat.zero_le _,fun _=>rfl⟩ rfl (by simp) (by omega) (by unfold maxLen;omega) ?_;intro A1 c1 w3 hacc3 _)
     go_ret
     exact ⟨A1,c1,by rw [HD.out];rfl,by rw [HD.out];exact hacc3⟩
    ·have HO2:=Lib.hid HOK.out.1
     go_wp2_with (at_builtin;refine wp_src ei_int rfl (.tmp 18) (.tmp 21) rfl w _ none 0 0 [] rfl (Acc.start _ _ _) _ 0 _ [] rfl (.inl rfl) ⟨by have:=HO2.out;omega,fun e=>by cases e⟩ rfl (by simp) (by omega) (by unfold maxLen;omega) ?_;intro A1 c1 w3 hacc3 _)
     go_ret
     exact ⟨A1,c1,by rw [HD.out];rfl,by rw [HD.out];exact hacc3⟩
   ·obtain ⟨b,off,rfl,-⟩:=row_ints HR.out (k:=0) (List.length_pos_iff.2 hx0)
    clear hx0
    have HO2:=Lib.hid HOK.out.1
    generalize xs.length=n at *
    have i2:(0:Int)≤(n:Int):=by omega
    have i4:(n:Int)≤(c:Int):=by omega
    by_cases hcn:c=n
    ·subst hcn
     go_wp2_with (at_builtin;refine wp_src ei_int rfl (.tmp 18) (.tmp 21) rfl w _ none 0 0 [] rfl (Acc.start _ _ _) (some ⟨b,off,none⟩) 0 0 [] rfl (.inl rfl) ⟨Nat.zero_le _,fun _=>rfl⟩ rfl (by simp) (by omega) (by unfold maxLen;omega) ?_;intro A1 c1 w3 hacc3 _)
     go_ret
     exact ⟨A1,c1,by rw [HD.out];rfl,by rw [HD.out];exact hacc3⟩
    ·have i6:(n:Int) < (c:Int):=by omega
     go_wp2_with (at_builtin;refine wp_src ei_int rfl (.tmp 18) (.tmp 21) rfl w _ none 0 0 [] rfl (Acc.start _ _ _) (some ⟨b,off+n,none⟩) 0 (c - n) [] rfl (.inl rfl) ⟨by have:=HO2.out;omega,fun e=>by cases e⟩ rfl (by simp) (by omega) (by unfold maxLen;omega) ?_;intro A1 c1 w3 hacc3 _)
     go_ret
     exact ⟨A1,c1,by rw [HD.out];rfl,by rw [HD.out];exact hacc3⟩
theorem ref06_trim (neg:Bool) (A:Option Addr) (c:Nat) (xs:List Int) (s0:Nat) (w:World) (hr:Row w A (xs.map (Value.int .i64))) (hok:Okc A c) (hc:xs.length≤c) (hl:xs.length≤1000000) (hs:s0≤1000000) :
  Calls Tryz.prog 52 #[.agg ([.bool neg,.slice A xs.length c,.int .i64 (s0:Int)]:List Value).toArray] w fun e w'=>∃ B d,e=.returned (.agg ([.bool (trimF neg xs s0).1,.slice B (trimF neg xs s0).2.1.length d,.int .i64 ((trimF neg xs s0).2.2:Int)]:List Value).toArray)∧Row w' B ((trimF neg xs s0).2.1.map (Value.int .i64))∧Ext w w'∧Fresh w B:=by
 have b1:=(Box.new w 64 [.bool neg,.slice A xs.length c,.int .i64 (s0:Int)]).alloc (.cells zeroN.toArray 64)
 have c1:=Box.new (w.alloc (.cells ([.bool neg,.slice A xs.length c,.int .i64 (s0:Int)]:List Value).toArray 64)) 64 zeroN
 have hs1:(w.alloc (.cells ([.bool neg,.slice A xs.length c,.int .i64 (s0:Int)]:List Value).toArray 64)).heap.size=w.heap.size+1:=by simp
 rw [hs1] at c1
 have hx1:Ext w ((w.alloc (.cells ([.bool neg,.slice A xs.length c,.int .i64 (s0:Int)]:List Value).toArray 64)).alloc (.cells zeroN.toArray 64)):=Ext.alloc_ (Ext.alloc_ (Ext.refl w) _) _
 have hsz:((w.alloc (.cells ([.bool neg,.slice A xs.length c,.int .i64 (s0:Int)]:List Value).toArray 64)).alloc (.cells zeroN.toArray 64)).heap.size=w.heap.size+2:=by simp
 have HSZ:=Lib.hid hsz
 have HB1:=Lib.hid b1
 have HC1:=Lib.hid c1
 have HX1:=Lib.hid hx1
 have k1:=b1.cell (j:=1) (v:=.slice A xs.length c) rfl
 have HT:=Lib.hid (ref05_trim A c xs _ (hr.below hx1 (Nat.le_refl _)) hok hc (by omega))
 have HTR:Hid (trimF neg xs s0=if leadF xs=[] then (false,[],0) else (neg,(tailF s0 (leadF xs)).1,(tailF s0 (leadF xs)).2)):=Lib.hid rfl
 have HLF:=Lib.hid (lead_first (xs:=xs))
 have hll:(leadF xs).length≤xs.length:=by unfold leadF;rw [List.length_drop];omega
 have hl2:(leadF xs).length≤1000000:=by omega
 clear b1 c1 hs1 hx1 hr hok hsz hll
 generalize trimF neg xs s0=tr at *
 generalize leadF xs=L at *
 go_enter Tryz.func52,Tryz.ntmps52
 go_upto_region 1 with fail
 change Code.wp _ _ _ _ ((w.alloc (.cells ([.bool neg,.slice A xs.length c,.int .i64 (s0:Int)]:List Value).toArray 64)).alloc (.cells zeroN.toArray 64))
 generalize (w.alloc (.cells ([.bool neg,.slice A xs.length c,.int .i64 (s0:Int)]:List Value).toArray 64)).alloc (.cells zeroN.toArray 64)=w1 at *
 generalize hdb:w.heap.size=db at *
 have HDB:=Lib.hid hdb
 clear hdb
 go_upto_region 2 with (go_at_call 100;with_reducible refine HT.out.mono ?_;rintro e w3 ⟨B,d,rfl,hA⟩)
 have hfr:∀ a,B=some a→db+2≤a.block:=fun a ha=>by
  subst ha
  have h1:=(hA.own.lt a.block rfl).1
  have:=HSZ.out
  omega
 have HFR:=Lib.hid hfr
 have hcap:=hA.cap
 have HR3:=Lib.hid hA.row
 have HB3:=Lib.hid (HB1.out.ext hA.ext)
 have HC3:=Lib.hid (HC1.out.ext hA.ext)
 have HX3:=Lib.hid (HX1.out.trans hA.ext)
 have k0:=HB3.out.cell (j:=0) (v:=.bool neg) rfl
 have k2:=HB3.out.cell (j:=2) (v:=.int .i64 (s0:Int)) rfl
 clear hA hfr HT k1 HB1 HC1 HX1 HSZ
 generalize hLL:L.length=LL at *
 have HLL:=Lib.hid hLL
 clear hLL
 by_cases hL:L=[]
 ·have hn0:LL=0:=by have:=HLL.out;rw [hL] at this;simp at this;omega
  subst hn0
  have HZ:Hid (tr=(false,[],0)):=Lib.hid (by rw [HTR.out,if_pos hL])
  clear hL k0 k2
  go_wp2_with (refine wpList_store_row rfl 64 (.tmp 2) (.tmp 11) rfl (db+1) zeroN.toArray rfl rfl _ _ HC3.out infoDec6 rfl (by simp [Value.oneCell',zeroN]) ?_)
  have hb9:=HC3.out.set zeroN.toArray
  refine bodyPost_ret (v:=.agg zeroN.toArray) (results_cell_row rfl _ _ (db+1) _ _ _ _ rfl hb9 Tryz.underlying64 rfl infoDec6) rfl ?_
  exact ⟨none,0,by rw [HZ.out];rfl,by rw [HZ.out];exact .inl rfl,Ext.setRow HX3.out (by have:=HDB.out;omega) _,fun a h=>by cases h⟩
 ·have hn2:1≤LL:=by
   have:=HLL.out
   cases L with
   | nil=>exact absurd rfl hL
   | cons x r=>rw [List.length_cons] at this;omega
  have HTRN:Hid (tr=(neg,(tailF s0 L).1,(tailF s0 L).2)):=Lib.hid (by rw [HTR.out,if_neg hL])
  have hlast:=HLF.out hL
  have HLST:=Lib.hid hlast
  have hnz:((LL:Int) == 0)=false:=by simp;omega
  have HTK:Hid (L.take LL=L):=Lib.hid (by rw [← HLL.out,List.take_length])
  clear hL hlast
  go_wp2
  go_loop [3,4] (fun v q=>∃ n sc:Nat,n≤LL∧sc≤s0∧1≤n∧v=.slice B n d∧q=.int .i64 (sc:Int)∧Hid (tailF s0 L=tailF sc (L.take n))) (fun v _=>lenV v)
  case atStart=>exact ⟨LL,s0,Nat.le_refl _,Nat.le_refl _,hn2,rfl,rfl,Lib.hid (by rw [HTK.out])⟩
  case round =>
   obtain ⟨n,sc,hn,hsc,hn1,rfl,rfl,HTL⟩:=hrel
   obtain ⟨b,off,hB,hcn⟩:=row_ints HR3.out (k:=n - 1) (by have:=HLL.out;omega)
   subst hB
   have HST:=Lib.hid (tail_step (L:=L) (n:=n) (sc:=sc) hn1 (by have:=HLL.out;omega))
   have HHL:=Lib.hid (tail_halt (L:=L) (n:=n) (sc:=sc) hn1 (by have:=HLL.out;omega))
   have hone:L.getD (n - 1) 0=0→2≤n:=fun hz=>by
    by_cases h1:n=1
    ·subst h1;exact absurd hz HLST.out
    ·omega
   have HON:=Lib.hid hone
   have hd:n≤d:=by omega
   have i2:(0:Int) < (n:Int):=by omega
   have i3:(0:Int)≤(n:Int) - 1:=by omega
   have i4:(n:Int) - 1 < (n:Int):=by omega
   have i5:((n:Int) - 1).toNat=n - 1:=by omega
   have i6:(n:Int) - 1≤(d:Int):=by omega
   have i7:(n:Int)≤(d:Int):=by omega
   have i9:max ((n:Int) - 1) 0=(n:Int) - 1:=by omega
   clear hone
   generalize L.getD (n - 1) 0=x at *
   by_cases hgo:0 < sc∧x=0
   ·have h2:=HON.out hgo.2
    have HST2:=Lib.hid (HST.out hgo.1 hgo.2)
    obtain ⟨h0,hx0⟩:=hgo
    subst hx0
    have i1:(0:Int) < (sc:Int):=by omega
    clear h0
    go_wp2
    go_round
    case rel=>exact ⟨n - 1,sc - 1,by omega,by omega,by omega,by first | rfl | (simp;omega),by go_num,Lib.hid (by rw [HTL.out,HST2.out])⟩
    case measure=>simp [lenV];omega
   ·have HHL2:=Lib.hid (HHL.out hgo)
    have HZ:Hid (tr=(neg,L.take n,sc)):=Lib.hid (by rw [HTRN.out,HTL.out,HHL2.out])
    have HTK2:Hid ((L.take n).length=n):=Lib.hid (by rw [List.length_take];have:=HLL.out;omega)
    have HRT:Hid (∀ ds:Array Value,Row (w3.setRow (db+1) ds) (some ⟨b,off,none⟩) ((L.take n).map (Value.int .i64))):=Lib.hid fun ds=>by
     have h1:=ints_row HR3.out (g:=db+1) (fun a ha=>by have:=HFR.out a ha;omega) ds
     have h2:=Row.take (k:=n) h1
     rw [List.map_take];exact h2
    have HFN:Hid (∀ a,some (⟨b,off,none⟩:Addr)=some a→w.heap.size≤a.block):=Lib.hid fun a ha=>by have:=HFR.out a ha;have:=HDB.out;omega
    by_cases h0:0 < sc
    ·have i1:(0:Int) < (sc:Int):=by omega
     have hxn:(x == 0)=false:=by
      have:x ≠ 0:=fun h=>hgo ⟨h0,h⟩
      simpa using this
     clear hgo h0 HON HST HHL
     go_wp2_with (refine wpList_store_row rfl 64 (.tmp 2) (.tmp 37) rfl (db+1) ([.bool neg,.slice (some ⟨b,off,none⟩) n d,.int .i64 (sc:Int)]:List Value).toArray rfl rfl _ _ HC3.out infoDec6 rfl (by simp [Value.oneCell']) ?_)
     have hb9:=HC3.out.set ([.bool neg,.slice (some ⟨b,off,none⟩) n d,.int .i64 (sc:Int)]:List Value).toArray
     refine bodyPost_ret (v:=.agg ([.bool neg,.slice (some ⟨b,off,none⟩) n d,.int .i64 (sc:Int)]:List Value).toArray) (results_cell_row rfl _ _ (db+1) _ _ _ _ rfl hb9 Tryz.underlying64 rfl infoDec6) rfl ?_
     exact ⟨some ⟨b,off,none⟩,⟨d,by rw [HZ.out];simp only [HTK2.out]⟩,by rw [HZ.out];exact HRT.out _,Ext.setRow HX3.out (by have:=HDB.out;omega) _,HFN.out⟩
    ·have i1:¬ ((0:Int) < (sc:Int)):=by omega
     clear hgo h0 HON HST HHL
     go_wp2_with (refine wpList_store_row rfl 64 (.tmp 2) (.tmp 37) rfl (db+1) ([.bool neg,.slice (some ⟨b,off,none⟩) n d,.int .i64 (sc:Int)]:List Value).toArray rfl rfl _ _ HC3.out infoDec6 rfl (by simp [Value.oneCell']) ?_)
     have hb9:=HC3.out.set ([.bool neg,.slice (some ⟨b,off,none⟩) n d,.int .i64 (sc:Int)]:List Value).toArray
     refine bodyPost_ret (v:=.agg ([.bool neg,.slice (some ⟨b,off,none⟩) n d,.int .i64 (sc:Int)]:List Value).toArray) (results_cell_row rfl _ _ (db+1) _ _ _ _ rfl hb9 Tryz.underlying64 rfl infoDec6) rfl ?_
     exact ⟨some ⟨b,off,none⟩,⟨d,by rw [HZ.out];simp only [HTK2.out]⟩,by rw [HZ.out];exact HRT.out _,Ext.setRow HX3.out (by have:=HDB.out;omega) _,HFN.out⟩
theorem ref14_dec (A B:Option Addr) (c e0:Nat) (d:Dr) (w:World) (hd:DrR w A B d) (ox:Okc A c) (oy:Okc B e0) (h1:d.int.length≤100000) (h2:d.frac.length≤100000) :
  Calls Tryz.prog 24 #[.agg (drV A c B e0 d).toArray] w fun e w'=>∃ E c',e=.returned (.agg ([.bool (trimF d.neg (d.int++d.frac) d.frac.length).1,.slice E (trimF d.neg (d.int++d.frac) d.frac.length).2.1.length c',.int .i64 ((trimF d.neg (d.int++d.frac) d.frac.length).2.2:Int)]:List Value).toArray)∧Row w' E ((trimF d.neg (d.int++d.frac) d.frac.length).2.1.map (Value.int .i64))∧Ext w w':=by
 have b1:=(Box.new w 43 (drV A c B e0 d)).alloc (.cells zeroN.toArray 64)
 have c1:=Box.new (w.alloc (.cells (drV A c B e0 d).toArray 43)) 64 zeroN
 have hs1:(w.alloc (.cells (drV A c B e0 d).toArray 43)).heap.size=w.heap.size+1:=by simp
 rw [hs1] at c1
 have hx1:Ext w ((w.alloc (.cells (drV A c B e0 d).toArray 43)).alloc (.cells zeroN.toArray 64)):=Ext.alloc_ (Ext.alloc_ (Ext.refl w) _) _
 have hz1:((w.alloc (.cells (drV A c B e0 d).toArray 43)).alloc (.cells zeroN.toArray 64)).heap.size=w.heap.size+2:=by simp
 obtain ⟨neg,xs,sep,ys⟩:=d
 simp only at h1 h2
 have hcl:(xs++ys).length≤1000000:=by rw [List.length_append];omega
 have HTM:Hid (∀ W E c',Row W E ((xs++ys).map (Value.int .i64))→Okc E c'→(xs++ys).length≤c'→Calls Tryz.prog 52 #[.agg ([.bool neg,.slice E (xs++ys).length c',.int .i64 (ys.length:Int)]:List Value).toArray] W fun e w'=>∃ F f,e=.returned (.agg ([.bool (trimF neg (xs++ys) ys.length).1,.slice F (trimF neg (xs++ys) ys.length).2.1.length f,.int .i64 ((trimF neg (xs++ys) ys.length).2.2:Int)]:List Value).toArray)∧Row w' F ((trimF neg (xs++ys) ys.length).2.1.map (Value.int .i64))∧Ext W w'∧Fresh W F):=Lib.hid fun W E c' q1 q2 q3=>ref06_trim neg E c' (xs++ys) ys.length W q1 q2 q3 hcl (by omega)
 have HXR:=Lib.hid (hd.int.below hx1 (Nat.le_refl _))
 have HYR:=Lib.hid (hd.frac.below hx1 (Nat.le_refl _))
 have HOX:=Lib.hid ox
 have HOY:=Lib.hid oy
 have HI1:=Lib.hid (ints_one xs)
 have HI2:=Lib.hid (ints_one ys)
 have HXL:Hid ((xs.map (Value.int .i64)).length=xs.length * 1):=Lib.hid (by simp)
 have HYL:Hid ((ys.map (Value.int .i64)).length=ys.length * 1):=Lib.hid (by simp)
 have HLL:Hid ((xs++ys).length=xs.length+ys.length):=Lib.hid (List.length_append)
 have HMM:Hid ((xs++ys).map (Value.int .i64)=xs.map (Value.int .i64)++ys.map (Value.int .i64)):=Lib.hid (List.map_append)
 have HB1:=Lib.hid b1
 have k1:=b1.cell (j:=1) (v:=.slice A xs.length c) rfl
 have HC1:=Lib.hid c1
 have HX1:=Lib.hid hx1
 have HZ1:=Lib.hid hz1
 clear b1 c1 hs1 hx1 hz1 hd hcl ox oy
 generalize trimF neg (xs++ys) ys.length=tr at *
 generalize (xs++ys).map (Value.int .i64)=zs at *
 generalize (xs++ys).length=nz at *
 generalize xs.map (Value.int .i64)=XS at *
 generalize ys.map (Value.int .i64)=YS at *
 go_enter Tryz.func24,Tryz.ntmps24
 go_upto_region 1 with fail
 change Code.wp _ _ _ _ ((w.alloc (.cells (drV A c B e0 ⟨neg,xs,sep,ys⟩).toArray 43)).alloc (.cells zeroN.toArray 64))
 generalize (w.alloc (.cells (drV A c B e0 ⟨neg,xs,sep,ys⟩).toArray 43)).alloc (.cells zeroN.toArray 64)=w1 at *
 have HK0:Hid (∀ W,Ext w1 W→W.cell? ⟨w.heap.size,0,none⟩=some (.bool neg)):=Lib.hid fun W hW=>(HB1.out.ext hW).cell (j:=0) (v:=.bool neg) rfl
 have HK3:Hid (∀ W,Ext w1 W→W.cell? ⟨w.heap.size,3,none⟩=some (.slice B ys.length e0)):=Lib.hid fun W hW=>(HB1.out.ext hW).cell (j:=3) (v:=.slice B ys.length e0) rfl
 generalize xs.length=n at *
 generalize ys.length=m at *
 go_upto_region 3 with (at_builtin;refine wp_src ei_int rfl (.tmp 4) (.tmp 6) rfl w1 _ none 0 0 [] rfl (Acc.start _ _ _) A n c XS rfl HXR.out HOX.out HXL.out HI1.out (by omega) (by unfold maxLen;omega) ?_;intro A1 c1 w3 hacc3 _)
 rw [List.nil_append,Nat.zero_add] at hacc3
 have k3:=HK3.out _ hacc3.ext
 have HA3:=Lib.hid hacc3
 have HYR3:=Lib.hid (HYR.out.below hacc3.ext (Nat.le_refl _))
 clear hacc3 k1
 try simp only [Nat.zero_add]
 go_upto_region 4 with (at_builtin;refine wp_src ei_int rfl (.tmp 8) (.tmp 10) rfl w1 _ A1 c1 n XS rfl HA3.out B m e0 YS rfl HYR3.out HOY.out HYL.out HI2.out (by omega) (by unfold maxLen;omega) ?_;intro A2 c2 w4 hacc4 _)
 have hcap:=hacc4.cap
 have hrow:=hacc4.row
 rw [← HMM.out] at hrow
 have HT4:=Lib.hid (HTM.out w4 A2 c2 hrow (Acc.okc hacc4) (by rw [HLL.out];exact hcap.1))
 rw [HLL.out] at HT4
 have HX4:=Lib.hid (HX1.out.trans hacc4.ext)
 have HS4:Hid (w.heap.size+2≤w4.heap.size):=Lib.hid (by have:=hacc4.ext.size;have:=HZ1.out;omega)
 have HC4:=Lib.hid (HC1.out.ext hacc4.ext)
 have q0:=HK0.out _ hacc4.ext
 have q3:=HK3.out _ hacc4.ext
 clear hacc4 hcap hrow k3 HTM
 go_wp2_with (first
  | (go_at_call 52;with_reducible refine HT4.out.mono ?_;rintro e w5 ⟨F,f,rfl,hrF,hx5,hfF⟩;have HC5:=Lib.hid (HC4.out.ext hx5);have HR5:=Lib.hid hrF;have HX5:=Lib.hid (HX4.out.trans hx5);have HF5:=Lib.hid hfF;clear hrF hx5 hfF)
  | (refine wpList_store_row rfl 64 (.tmp 2) (.tmp 19) rfl (w.heap.size+1) ([.bool tr.1,.slice F tr.2.1.length f,.int .i64 (tr.2.2:Int)]:List Value).toArray rfl rfl _ _ HC5.out infoDec6 rfl (by simp [Value.oneCell']) ?_))
 have hb9:=HC5.out.set ([.bool tr.1,.slice F tr.2.1.length f,.int .i64 (tr.2.2:Int)]:List Value).toArray
 refine bodyPost_ret (v:=.agg ([.bool tr.1,.slice F tr.2.1.length f,.int .i64 (tr.2.2:Int)]:List Value).toArray) (results_cell_row rfl _ _ (w.heap.size+1) _ _ _ _ rfl hb9 Tryz.underlying64 rfl infoDec6) rfl ?_
 exact ⟨F,f,rfl,ints_row HR5.out (fun a ha=>by have:=HF5.out a ha;have:=HS4.out;omega) _,Ext.setRow HX5.out (Nat.le_succ _) _⟩
theorem ref06_same (X Y:Option Addr) (cx cy:Nat) (na nb:Bool) (xs ys:List Int) (s t:Nat) (w:World) (hx:Row w X (xs.map (Value.int .i64))) (hy:Row w Y (ys.map (Value.int .i64))) (h1:xs.length≤maxLen) (h2:ys.length≤maxLen) :
  Calls Tryz.prog 23 #[.agg ([.bool na,.slice X xs.length cx,.int .i64 (s:Int)]:List Value).toArray,.agg ([.bool nb,.slice Y ys.length cy,.int .i64 (t:Int)]:List Value).toArray] w fun e w'=>e=.returned (.bool (decide (xs=ys) && ((na == nb) && ((s:Int) == (t:Int)))))∧Ext w w':=by
 have b1:=(Box.new w 64 [.bool na,.slice X xs.length cx,.int .i64 (s:Int)]).alloc (.cells ([.bool nb,.slice Y ys.length cy,.int .i64 (t:Int)]:List Value).toArray 64)
 have c1:=Box.new (w.alloc (.cells ([.bool na,.slice X xs.length cx,.int .i64 (s:Int)]:List Value).toArray 64)) 64 [.bool nb,.slice Y ys.length cy,.int .i64 (t:Int)]
 have hx1:Ext w ((w.alloc (.cells ([.bool na,.slice X xs.length cx,.int .i64 (s:Int)]:List Value).toArray 64)).alloc (.cells ([.bool nb,.slice Y ys.length cy,.int .i64 (t:Int)]:List Value).toArray 64)):=Ext.alloc_ (Ext.alloc_ (Ext.refl w) _) _
 have hs1:(w.alloc (.cells ([.bool na,.slice X xs.length cx,.int .i64 (s:Int)]:List Value).toArray 64)).heap.size=w.heap.size+1:=by simp
 rw [hs1] at c1
 clear hs1
 have HB:=Lib.hid b1
 have HC:=Lib.hid c1
 have HX:=Lib.hid hx1
 have HSM:=Lib.hid (same X Y cx cy xs ys _ (hx.below hx1 (Nat.le_refl _)) (hy.below hx1 (Nat.le_refl _)) h1 h2)
 have p1:=b1.cell (j:=1) (v:=.slice X xs.length cx) rfl
 have q1:=c1.cell (j:=1) (v:=.slice Y ys.length cy) rfl
 clear b1 c1 hx1 hx hy h1 h2
 generalize decide (xs=ys)=t1 at *
 go_enter Tryz.func23,Tryz.ntmps23
 go_upto_region 1 with fail
 change Code.wp _ _ _ _ ((w.alloc (.cells ([.bool na,.slice X xs.length cx,.int .i64 (s:Int)]:List Value).toArray 64)).alloc (.cells ([.bool nb,.slice Y ys.length cy,.int .i64 (t:Int)]:List Value).toArray 64))
 generalize (w.alloc (.cells ([.bool na,.slice X xs.length cx,.int .i64 (s:Int)]:List Value).toArray 64)).alloc (.cells ([.bool nb,.slice Y ys.length cy,.int .i64 (t:Int)]:List Value).toArray 64)=w1 at *
 go_upto_region 2 with (go_at_call 17;with_reducible refine HSM.out.mono ?_;rintro e w2 ⟨rfl,hx2⟩)
 have HX2:=Lib.hid (HX.out.trans hx2)
 have p0:=(HB.out.ext hx2).cell (j:=0) (v:=.bool na) rfl
 have q0:=(HC.out.ext hx2).cell (j:=0) (v:=.bool nb) rfl
 have p2:=(HB.out.ext hx2).cell (j:=2) (v:=.int .i64 (s:Int)) rfl
 have q2:=(HC.out.ext hx2).cell (j:=2) (v:=.int .i64 (t:Int)) rfl
 clear hx2 p1 q1 HSM
 cases t1
 ·go_wp2
  go_ret
  exact ⟨ret_bool (by first | rfl | (rw [hnn];rfl)),HX2.out⟩
 cases hnn:(na == nb)
 ·go_wp2
  go_ret
  exact ⟨ret_bool (by first | rfl | (rw [hnn];rfl)),HX2.out⟩
 ·go_wp2
  go_ret
  exact ⟨ret_bool (by first | rfl | (rw [hnn];rfl)),HX2.out⟩
end Go.Proofs.YtcghgkagpkmpeaaGreatDoor.Loc
