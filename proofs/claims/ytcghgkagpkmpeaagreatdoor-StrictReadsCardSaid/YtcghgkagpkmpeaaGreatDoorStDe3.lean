/- Walks: slices.Grow of none, slices.Concat of two lists; a draft's number, the program's. -/
import Derived.Test.YtcghgkagpkmpeaaGreatDoorStDe2
import Derived.Lib.AppendZeros
set_option linter.unusedVariables false
set_option linter.unusedSimpArgs false
set_option maxHeartbeats 8000000
namespace Go.Proofs.YtcghgkagpkmpeaaGreatDoor.Loc
open Go.RowKit Utf All Small Strs Build EncC Pat Cls Dec Go.Proofs.YtcghgkagpkmpeaaGreatDoor.Sys
theorem grow_i (n:Nat) (w:World) (hn:n≤1000000):Calls Tryz.prog 170 #[.slice none 0 0,.int .i64 (n:Int)] w fun e w'=>∃ A c,e=.returned (.slice A 0 c)∧Acc 3 1 w w' A c 0 []:=by
 by_cases h0:n=0
 ·subst h0
  go_enter Tryz.func170,Tryz.ntmps170
  go_wp2
  go_ret
  exact ⟨none,0,rfl,Acc.start _ _ _⟩
 ·obtain ⟨i,z,hi,hz,hsize,hby,hzs⟩:=ei_int.hi
  have happ:=fun ty=>Lib.run_append_nil_zeros (P:=Tryz.prog) w 41 3 ty 3 i z .i64 .i64 Tryz.underlying41 Tryz.underlying3 hi hz n (by omega) (by omega) (by omega) (by rw [hby];omega)
  have hc1:=grownCap_ge w n 0 3
  have hc2:=grownCap_le_maxLen w n 0 3 (by unfold maxLen;omega)
  have hown:∀ zs:Array Value,zs.size=grownCap w n 0 3 * 1→Acc 3 1 w (w.drew.alloc (.cells zs 3)) (some ⟨w.heap.size,0,none⟩) (grownCap w n 0 3) 0 []:=fun zs hs =>
   ⟨⟨by simp,.inr ⟨w.heap.size,_,zs,rfl,Nat.le_refl _,heap_alloc_new w.drew _,Nat.zero_le _,hc2,hs,by simp⟩⟩,Ext.alloc_ (Ext.drew_ (Ext.refl w)) _⟩
  have hzl:(Builtin.zeroCells z.cells n++Builtin.zeroCells z.cells (grownCap w n 0 3 - n)).size=grownCap w n 0 3 * 1:=by
   simp [Builtin.zeroCells,hzs];omega
  have HA:=Lib.hid (hown _ hzl)
  clear hown hzl
  generalize Builtin.zeroCells z.cells n++Builtin.zeroCells z.cells (grownCap w n 0 3 - n)=zs at *
  generalize grownCap w n 0 3=cp at *
  have HP:=Lib.hid happ
  have i1:¬ ((n:Int) < 0):=by omega
  have i2:(0:Int) < (n:Int):=by omega
  have i3:¬ (cp=0):=by omega
  have i4:(0:Int)≤(cp:Int):=by omega
  clear happ hc2 hi hz hsize hby hzs
  go_enter Tryz.func170,Tryz.ntmps170
  go_wp2_with (at_builtin;refine Lib.wpList_append_run _ rfl (.tmp 20) (.tmp 21) _ _ rfl (.slice none 0 0) (.int .i64 (n:Int)) rfl rfl _ _ (HP.out _) ?_)
  go_ret
  exact ⟨_,_,rfl,HA.out⟩
theorem row2 {w:World} {V A B:Option Addr} {n c m d:Nat} (h:Row w V [.slice A n c,.slice B m d]):∃ b off,V=some ⟨b,off,none⟩∧w.cell? ⟨b,off,none⟩=some (.slice A n c)∧w.cell? ⟨b,off+1,none⟩=some (.slice B m d):=by
 obtain ⟨b,off,rfl,hc⟩:=h.at_ (k:=0) (by simp)
 exact ⟨b,off,rfl,hc 0 _ rfl,hc 1 _ rfl⟩
set_option maxRecDepth 100000
theorem concat_i (V A B:Option Addr) (k c d:Nat) (xs ys:List Int) (w:World) (hv:Row w V [.slice A xs.length c,.slice B ys.length d]) (hx:Row w A (xs.map (Value.int .i64))) (hy:Row w B (ys.map (Value.int .i64))) (ox:Okc A c) (oy:Okc B d) (hl:xs.length≤100000) (hl2:ys.length≤100000) :
  Calls Tryz.prog 99 #[.slice V 2 k] w fun e w'=>∃ E c',e=.returned (.slice E (xs++ys).length c')∧Acc 3 1 w w' E c' (xs++ys).length ((xs++ys).map (Value.int .i64)):=by
 obtain ⟨b,off,rfl,k0,k1⟩:=row2 hv
 have HR:=Lib.hid hv
 have HXR:=Lib.hid hx
 have HYR:=Lib.hid hy
 have HOX:=Lib.hid ox
 have HOY:=Lib.hid oy
 have HI1:=Lib.hid (ints_one xs)
 have HI2:=Lib.hid (ints_one ys)
 have HXL:Hid ((xs.map (Value.int .i64)).length=xs.length * 1):=Lib.hid (by simp)
 have HYL:Hid ((ys.map (Value.int .i64)).length=ys.length * 1):=Lib.hid (by simp)
 have HLL:Hid ((xs++ys).length=xs.length+ys.length):=Lib.hid (List.length_append)
 have HMM:Hid ((xs++ys).map (Value.int .i64)=xs.map (Value.int .i64)++ys.map (Value.int .i64)):=Lib.hid (List.map_append)
 have HG:=Lib.hid (grow_i (xs.length+ys.length) w (by omega))
 clear hv hx hy ox oy
 generalize (xs++ys).map (Value.int .i64)=XY at *
 generalize (xs++ys).length=N at *
 generalize xs.map (Value.int .i64)=XS at *
 generalize ys.map (Value.int .i64)=YS at *
 generalize xs.length=n at *
 generalize ys.length=m at *
 go_enter Tryz.func99,Tryz.ntmps99
 go_wp2
 go_loop [3,5,11] (fun s _ i=>∃ j:Nat,j≤2∧i=.int .i64 j∧s=.int .i64 ((if j=0 then 0 else if j=1 then n else n+m:Nat):Int)) (fun _ _ i=>2 - (intOf i).toNat)
 case atStart=>exact ⟨0,by omega,rfl,rfl⟩
 case round =>
  obtain ⟨j,hj,rfl,rfl⟩:=hrel
  have hj3:j=0∨j=1∨j=2:=by omega
  rcases hj3 with rfl | rfl | rfl
  ·have i1:¬ ((n:Int) < 0):=by omega
   simp only [if_true]
   go_wp2
   go_round
   case rel=>exact ⟨1,by omega,by go_num,by simp⟩
   case measure=>simp [intOf]
  ·have i1:¬ ((n:Int)+(m:Int) < 0):=by omega
   simp only [if_true,if_false,Nat.one_ne_zero]
   go_wp2
   go_round
   case rel=>exact ⟨2,by omega,by go_num,by simp⟩
   case measure=>simp [intOf]
  ·simp only [show ¬ ((2:Nat)=0) by decide,show ¬ ((2:Nat)=1) by decide,if_false]
   have hnm:((n+m:Nat):Int)=(n:Int)+(m:Int):=by omega
   rw [hnm] at HG
   simp only [hnm]
   clear hnm
   go_wp2_with (go_at_call 170;with_reducible refine HG.out.mono ?_;rintro e w1 ⟨E,c',rfl,hA⟩)
   have HA:=Lib.hid hA
   clear hA HG k0 k1
   go_loopw [6,8,27] (fun v _ i wr=>∃ (j:Nat) (E:Option Addr) (c':Nat),j≤2∧i=.int .i64 j∧v=.slice E (if j=0 then 0 else if j=1 then n else n+m) c'∧Acc 3 1 w wr E c' (if j=0 then 0 else if j=1 then n else n+m) (if j=0 then [] else if j=1 then XS else XS++YS)) (fun _ _ i _=>2 - (intOf i).toNat)
   case atStart=>exact ⟨0,E,c',by omega,rfl,rfl,HA.out⟩
   case round =>
    obtain ⟨j,E,c',hj,rfl,rfl,hacc⟩:=hrel
    have hr:=HR.out.below hacc.ext (Nat.le_refl _)
    obtain ⟨_,_,hbo,k0,k1⟩:=row2 hr
    injection hbo with hbo;injection hbo with hb1 hb2;subst hb1;subst hb2
    have hj3:j=0∨j=1∨j=2:=by omega
    rcases hj3 with rfl | rfl | rfl
    ·simp only [if_true] at hacc ⊢
     have HA:=Lib.hid hacc
     have HX:=Lib.hid (HXR.out.below hacc.ext (Nat.le_refl _))
     clear hacc hr
     go_wp2_with (at_builtin;refine wp_src ei_int rfl (.tmp 31) (.tmp 32) rfl w _ E c' 0 [] rfl HA.out A n c XS rfl HX.out HOX.out HXL.out HI1.out (by omega) (by unfold maxLen;omega) ?_;intro A1 c1 w3 hacc3 _)
     rw [List.nil_append,Nat.zero_add] at hacc3
     go_roundw
     case rel=>exact ⟨1,A1,c1,by omega,by go_num,by simp,by simpa using hacc3⟩
     case measure=>simp [intOf]
    ·simp only [if_true,if_false,Nat.one_ne_zero] at hacc ⊢
     have HA:=Lib.hid hacc
     have HY:=Lib.hid (HYR.out.below hacc.ext (Nat.le_refl _))
     clear hacc hr
     go_wp2_with (at_builtin;refine wp_src ei_int rfl (.tmp 31) (.tmp 32) rfl w _ E c' n XS rfl HA.out B m d YS rfl HY.out HOY.out HYL.out HI2.out (by omega) (by unfold maxLen;omega) ?_;intro A1 c1 w3 hacc3 _)
     go_roundw
     case rel=>exact ⟨2,A1,c1,by omega,by go_num,by simp,by simpa using hacc3⟩
     case measure=>simp [intOf]
    ·simp only [show ¬ ((2:Nat)=0) by decide,show ¬ ((2:Nat)=1) by decide,if_false] at hacc ⊢
     have HA:=Lib.hid hacc
     clear hacc hr
     go_wp2
     go_ret
     exact ⟨E,c',by rw [HLL.out];rfl,by rw [HLL.out,HMM.out];exact HA.out⟩
set_option maxRecDepth 512
theorem ints_row {w:World} {g:Nat} {A:Option Addr} {xs:List Int} (hr:Row w A (xs.map (Value.int .i64))) (hne:∀ a,A=some a→a.block ≠ g) (ds:Array Value):Row (w.setRow g ds) A (xs.map (Value.int .i64)) :=
 ints_off hr hne fun k off hk=>World.cell?_of_block (setRow_other w g k _ hk)
set_option maxRecDepth 100000
theorem draft_dec (A B:Option Addr) (c e0:Nat) (d:Dr) (w:World) (hd:DrR w A B d) (ox:Okc A c) (oy:Okc B e0) (h1:d.int.length≤100000) (h2:d.frac.length≤100000) :
  Calls Tryz.prog 51 #[.agg (drV A c B e0 d).toArray] w fun e w'=>∃ E c',e=.returned (.agg ([.bool (trimF d.neg (d.int++d.frac) d.frac.length).1,.slice E (trimF d.neg (d.int++d.frac) d.frac.length).2.1.length c',.int .i64 ((trimF d.neg (d.int++d.frac) d.frac.length).2.2:Int)]:List Value).toArray)∧Row w' E ((trimF d.neg (d.int++d.frac) d.frac.length).2.1.map (Value.int .i64))∧Ext w w'∧Fresh w E:=by
 have b1:=(Box.new w 55 (drV A c B e0 d)).alloc (.cells zeroN.toArray 59)
 have c1:=Box.new (w.alloc (.cells (drV A c B e0 d).toArray 55)) 59 zeroN
 have hs1:(w.alloc (.cells (drV A c B e0 d).toArray 55)).heap.size=w.heap.size+1:=by simp
 rw [hs1] at c1
 have hx1:Ext w ((w.alloc (.cells (drV A c B e0 d).toArray 55)).alloc (.cells zeroN.toArray 59)):=Ext.alloc_ (Ext.alloc_ (Ext.refl w) _) _
 have hz1:((w.alloc (.cells (drV A c B e0 d).toArray 55)).alloc (.cells zeroN.toArray 59)).heap.size=w.heap.size+2:=by simp
 obtain ⟨neg,xs,sep,ys⟩:=d
 have hcl:(xs++ys).length≤1000000:=by rw [List.length_append];simp only at h1 h2;omega
 have HCC:Hid (∀ W V k,Ext w W→Row W V [.slice A xs.length c,.slice B ys.length e0]→Calls Tryz.prog 99 #[.slice V 2 k] W fun e w'=>∃ E c',e=.returned (.slice E (xs++ys).length c')∧Row w' E ((xs++ys).map (Value.int .i64))∧Okc E c'∧(xs++ys).length≤c'∧Ext W w'):=Lib.hid fun W V k hW hV =>
  (concat_i V A B k c e0 xs ys W hV (hd.int.below hW (Nat.le_refl _)) (hd.frac.below hW (Nat.le_refl _)) ox oy h1 h2).mono fun e w' ⟨E,c',q1,q2⟩=>⟨E,c',q1,q2.row,Acc.okc q2,q2.cap.1,q2.ext⟩
 have HTM:Hid (∀ W E c',Row W E ((xs++ys).map (Value.int .i64))→Okc E c'→(xs++ys).length≤c'→Calls Tryz.prog 98 #[.agg ([.bool neg,.slice E (xs++ys).length c',.int .i64 (ys.length:Int)]:List Value).toArray] W fun e w'=>∃ F f,e=.returned (.agg ([.bool (trimF neg (xs++ys) ys.length).1,.slice F (trimF neg (xs++ys) ys.length).2.1.length f,.int .i64 ((trimF neg (xs++ys) ys.length).2.2:Int)]:List Value).toArray)∧Row w' F ((trimF neg (xs++ys) ys.length).2.1.map (Value.int .i64))∧Ext W w'∧Fresh W F):=Lib.hid fun W E c' q1 q2 q3=>decimal_trim neg E c' (xs++ys) ys.length W q1 q2 q3 hcl (by simp only at h2;omega)
 have i1:IntKind.i64.wrap (ys.length:Int)=(ys.length:Int):=by simp only at h2;rw [IntKind.wrap_i64];omega
 have k0:=b1.cell (j:=0) (v:=.bool neg) rfl
 have k1:=b1.cell (j:=1) (v:=.slice A xs.length c) rfl
 have k3:=b1.cell (j:=3) (v:=.slice B ys.length e0) rfl
 have HC1:=Lib.hid c1
 have HX1:=Lib.hid hx1
 have HZ1:=Lib.hid hz1
 clear b1 c1 hs1 hx1 hz1 hd h1 h2 hcl ox oy
 generalize trimF neg (xs++ys) ys.length=tr at *
 generalize (xs++ys).map (Value.int .i64)=zs at *
 generalize (xs++ys).length=nz at *
 go_enter Tryz.func51,Tryz.ntmps51
 go_upto_region 1 with fail
 change Code.wp _ _ _ _ ((w.alloc (.cells (drV A c B e0 ⟨neg,xs,sep,ys⟩).toArray 55)).alloc (.cells zeroN.toArray 59))
 generalize (w.alloc (.cells (drV A c B e0 ⟨neg,xs,sep,ys⟩).toArray 55)).alloc (.cells zeroN.toArray 59)=w1 at *
 refine rg_ (S:=fun W=>Ext w W∧W.cell? ⟨w.heap.size,0,none⟩=some (.bool neg)∧W.cell? ⟨w.heap.size,1,none⟩=some (.slice A xs.length c)∧W.cell? ⟨w.heap.size,3,none⟩=some (.slice B ys.length e0)) (⟨Ext.drew_ HX1.out,k0,k1,k3⟩) (fun hHeld=>?_)
 refine tk_ 0 hHeld ?_
 try simp only [Act.put,sA,sZ,sS]
 refine tk_ 1 hHeld ?_
 try simp only [Act.put,sA,sZ,sS]
 refine tk_ 2 hHeld ?_
 try simp only [Act.put,sA,sZ,sS]
 refine tk_ 3 hHeld ?_
 try simp only [Act.put,sA,sZ,sS]
 refine tk_ 4 hHeld ?_
 try simp only [Act.put,sA,sZ,sS]
 refine tk_ 5 hHeld ?_
 try simp only [Act.put,sA,sZ,sS]
 refine tk_ 8 hHeld ?_
 try simp only [Act.put,sA,sZ,sS]
 refine tk_ 9 hHeld ?_
 try simp only [Act.put,sA,sZ,sS]
 refine tk_ 10 hHeld ?_
 try simp only [Act.put,sA,sZ,sS]
 refine on_ 6 (fun K1 hK1=>?_)
 go_simp
 have hx2:Ext w1 (w1.drew.alloc (.cells ([.slice A xs.length c,.slice B ys.length e0]:List Value).toArray 41)):=Ext.alloc_ (Ext.drew_ (Ext.refl _)) _
 have HV2:=Lib.hid (row_new w1.drew [.slice A xs.length c,.slice B ys.length e0] 41)
 have HX2:=Lib.hid hx2
 refine hK1.out _ _ (⟨HX1.out.trans hx2,Ext.cell_ hx2 k0,Ext.cell_ hx2 k1,Ext.cell_ hx2 k3⟩) (fun hHeld=>?_)
 clear hK1
 try simp only [Act.put,sA,sZ,sS]
 refine on_ 7 (fun K1 hK1=>?_)
 go_simp
 go_at_call 99
 refine (HCC.out _ _ 2 hHeld.1 HV2.out).mono ?_
 rintro e w3 ⟨E,cE,rfl,hrE,hoE,hcE,hx3⟩
 have HTZ:=Lib.hid (HTM.out w3 E cE hrE hoE hcE)
 have HX3:=Lib.hid (HX2.out.trans hx3)
 clear hrE hoE hcE
 refine hK1.out _ _ (⟨hHeld.1.trans hx3,Ext.cell_ hx3 hHeld.2.1,Ext.cell_ hx3 hHeld.2.2.1,Ext.cell_ hx3 hHeld.2.2.2⟩) (fun hHeld=>?_)
 clear hK1
 try simp only [Act.put,sA,sZ,sS]
 refine tk_ 11 hHeld ?_
 try simp only [Act.put,sA,sZ,sS]
 refine on_ 12 (fun K1 hK1=>?_)
 go_simp
 go_at_call 98
 refine HTZ.out.mono ?_
 rintro e w4 ⟨F,cF,rfl,hrF,hx4,hfF⟩
 have HRF:=Lib.hid hrF
 have HFF:Hid (∀ a,F=some a→w.heap.size+2≤a.block):=Lib.hid (fun a ha=>by have:=hfF a ha;have:=HX3.out.size;have:=HZ1.out;omega)
 have HX4:=Lib.hid (HX3.out.trans hx4)
 clear hrF hfF
 refine hK1.out _ _ (⟨hHeld.1.trans hx4,Ext.cell_ hx4 hHeld.2.1,Ext.cell_ hx4 hHeld.2.2.1,Ext.cell_ hx4 hHeld.2.2.2⟩) (fun hHeld=>?_)
 clear hK1
 try simp only [Act.put,sA,sZ,sS]
 refine on_ 13 (fun K1 hK1=>?_)
 have HS4:=Lib.hid hHeld.1
 have HB4:=Lib.hid (HC1.out.ext HX4.out)
 refine step_row rfl 59 (.tmp 2) (.tmp 15) rfl (w.heap.size+1) ([.bool tr.1,.slice F tr.2.1.length cF,.int .i64 (tr.2.2:Int)]:List Value).toArray (by rfl) (by rfl) _ _ HB4.out infoDec rfl (by simp [Value.oneCell']) ?_
 refine hK1.out _ _ (⟨Ext.setRow hHeld.1 (Nat.le_succ _) _,(World.cell?_of_block (setRow_other w4 (w.heap.size+1) w.heap.size _ (by omega))).trans hHeld.2.1,(World.cell?_of_block (setRow_other w4 (w.heap.size+1) w.heap.size _ (by omega))).trans hHeld.2.2.1,(World.cell?_of_block (setRow_other w4 (w.heap.size+1) w.heap.size _ (by omega))).trans hHeld.2.2.2⟩) (fun hHeld=>?_)
 clear hK1
 try simp only [Act.put,sA,sZ,sS]
 refine dn_ ?_
 clear hHeld hx2 hx3 hx4
 go_wp2
 have hb5:=HB4.out.set ([.bool tr.1,.slice F tr.2.1.length cF,.int .i64 (tr.2.2:Int)]:List Value).toArray
 refine bodyPost_ret (v:=.agg ([.bool tr.1,.slice F tr.2.1.length cF,.int .i64 (tr.2.2:Int)]:List Value).toArray) (results_cell_row rfl _ _ (w.heap.size+1) _ _ _ _ rfl hb5 Tryz.underlying59 rfl infoDec) rfl ?_
 exact ⟨F,cF,rfl,ints_row HRF.out (fun a ha=>by have:=HFF.out a ha;omega) _,Ext.setRow HS4.out (Nat.le_succ _) _,fun a ha=>by have:=HFF.out a ha;omega⟩
end Go.Proofs.YtcghgkagpkmpeaaGreatDoor.Loc
