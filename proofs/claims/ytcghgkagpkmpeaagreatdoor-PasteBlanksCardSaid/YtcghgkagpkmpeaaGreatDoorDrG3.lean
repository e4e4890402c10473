/- Walk: a draft made such as may be, its digits ahead a row of the call's own. -/
import Derived.Test.YtcghgkagpkmpeaaGreatDoorJItW
set_option linter.unusedVariables false
set_option linter.unusedSimpArgs false
set_option maxHeartbeats 4000000
namespace Go.Proofs.YtcghgkagpkmpeaaGreatDoor.Loc
open Go.RowKit Utf All Small Strs Build EncC Pat Cls Dec Go.Proofs.YtcghgkagpkmpeaaGreatDoor.Sys
theorem acc_off {e sz:Nat} {w0 w w':World} {A:Option Addr} {c n r:Nat} {cs:List Value} (h:Acc e sz w0 w A c n cs) (hx:Ext w0 w') (hne:∀ a,A=some a→a.block ≠ r) (hb:∀ k,k ≠ r→w'.heap[k]? = w.heap[k]?):Acc e sz w0 w' A c n cs:=by
 refine ⟨⟨h.own.1,?_⟩,hx⟩
 rcases h.own.2 with hn | ⟨g,cap,cur,hv,hb1,hg,hr⟩
 ·exact .inl hn
 ·have hgr:g ≠ r:=by
   injection hv with hA _ _
   exact hne _ hA
  exact .inr ⟨g,cap,cur,hv,hb1,(hb g hgr).trans hg,hr⟩
theorem acc_lt {e sz:Nat} {w0 w:World} {A:Option Addr} {c n:Nat} {cs:List Value} (h:Acc e sz w0 w A c n cs) {a:Addr} (ha:A=some a):w0.heap.size≤a.block∧a.block < w.heap.size:=h.own.lt a.block (by rw [ha];rfl)
theorem apart_ {A B:Option Addr} (h:∀ a b:Addr,A=some a→B=some b→a.block ≠ b.block):Apart A B:=h
theorem size_up (w:World) (o:Obj):(w.alloc o).heap.size=w.heap.size+1:=by simp
theorem off4 {w:World} {b k:Nat} {v0 v1 v2 v3:Value} (hk:k ≠ b):((((w.setCell ⟨b,0,none⟩ v0).setCell ⟨b,1,none⟩ v1).setCell ⟨b,2,none⟩ v2).setCell ⟨b,3,none⟩ v3).heap[k]? = w.heap[k]? :=
 (heap_setCell_other _ _ k v3 hk).trans ((heap_setCell_other _ _ k v2 hk).trans ((heap_setCell_other _ _ k v1 hk).trans (heap_setCell_other w _ k v0 hk)))
set_option maxRecDepth 100000
theorem ref14_goodA (A B:Option Addr) (c e0:Nat) (d:Dr) (m n:Nat) (w:World) (hd:DrR w A B d) (hi:DrI d) (hm:m≤100) (hn:n≤100) :
  Calls Tryz.prog 13 #[.agg (drV A c B e0 d).toArray,.int .i64 (m:Int),.int .i64 (n:Int)] w fun e w'=>∃ A' B' c' e',e=.returned (.agg (drV A' c' B' e' (goodD d m n)).toArray)∧Acc 3 1 w w' A' c' (goodD d m n).int.length ((goodD d m n).int.map (Value.int .i64))∧Row w' B' ((goodD d m n).frac.map (Value.int .i64))∧Okc B' e'∧Apart A' B'∧Ext w w':=by
 have b1:=(Box.new w 43 (drV A c B e0 d)).alloc (.cells zeroD.toArray 43)
 have c1:=Box.new (w.alloc (.cells (drV A c B e0 d).toArray 43)) 43 zeroD
 have hx1:Ext w ((w.alloc (.cells (drV A c B e0 d).toArray 43)).alloc (.cells zeroD.toArray 43)):=Ext.alloc_ (Ext.alloc_ (Ext.refl w) _) _
 have hs1:(w.alloc (.cells (drV A c B e0 d).toArray 43)).heap.size=w.heap.size+1:=by simp
 rw [hs1] at c1
 clear hs1
 obtain ⟨neg,xs,sep,ys⟩:=d
 have HG:Hid (goodD ⟨neg,xs,sep,ys⟩ m n=⟨neg,goodL xs m,sep,if sep then goodL ys n else []⟩):=Lib.hid rfl
 have HSZ:Hid (((w.alloc (.cells (drV A c B e0 ⟨neg,xs,sep,ys⟩).toArray 43)).alloc (.cells zeroD.toArray 43)).heap.size=w.heap.size+2):=Lib.hid (by simp)
 have HDD:=Lib.hid hd
 have HDI:=Lib.hid hi
 have HB1:=Lib.hid b1
 have HC1:=Lib.hid c1
 have HX1:=Lib.hid hx1
 have k0:=b1.cell (j:=0) (v:=.bool neg) rfl
 have k1:=b1.cell (j:=1) (v:=.slice A xs.length c) rfl
 have k2:=b1.cell (j:=2) (v:=.bool sep) rfl
 clear b1 c1 hx1 hd hi
 go_enter Tryz.func13,Tryz.ntmps13
 go_upto_region 1 with fail
 change Code.wp _ _ _ _ ((w.alloc (.cells (drV A c B e0 ⟨neg,xs,sep,ys⟩).toArray 43)).alloc (.cells zeroD.toArray 43))
 generalize (w.alloc (.cells (drV A c B e0 ⟨neg,xs,sep,ys⟩).toArray 43)).alloc (.cells zeroD.toArray 43)=w1 at *
 have HG1:Hid (∀ W,Ext w1 W→Calls Tryz.prog 41 #[.slice A xs.length c,.int .i64 (m:Int)] W fun e w'=>∃ E c',e=.returned (.slice E (goodL xs m).length c')∧Acc 3 1 w w' E c' (goodL xs m).length ((goodL xs m).map (Value.int .i64))∧(∀ a,E=some a→W.heap.size≤a.block)∧Ext W w'):=Lib.hid fun W hW =>
  (ref05_good A xs.length c xs m W (HDD.out.int.below (HX1.out.trans hW) (Nat.le_refl _)) rfl hm HDI.out.int).mono fun e w' ⟨E,c',h1,h2⟩=>⟨E,c',h1,h2.base (HX1.out.trans hW),fun a ha=>(acc_lt h2 ha).1,h2.ext⟩
 have HG2:Hid (∀ W,Ext w1 W→Calls Tryz.prog 41 #[.slice B ys.length e0,.int .i64 (n:Int)] W fun e w'=>∃ E c',e=.returned (.slice E (goodL ys n).length c')∧Row w' E ((goodL ys n).map (Value.int .i64))∧Okc E c'∧(∀ a,E=some a→W.heap.size≤a.block)∧Ext W w'):=Lib.hid fun W hW =>
  (ref05_good B ys.length e0 ys n W (HDD.out.frac.below (HX1.out.trans hW) (Nat.le_refl _)) rfl hn HDI.out.frac).mono fun e w' ⟨E,c',h1,h2⟩=>⟨E,c',h1,h2.row,Acc.okc h2,fun a ha=>(acc_lt h2 ha).1,h2.ext⟩
 generalize goodL xs m=X at *
 generalize goodL ys n=Y at *
 go_cut [7] (fun v wx=>∃ p8 E c',v=.pointer (some ⟨p8,0,none⟩)∧Box wx p8 43 [.bool neg,.slice E X.length c',.bool sep,.slice none 0 0]∧Acc 3 1 w wx E c' X.length (X.map (Value.int .i64))∧(∀ a,E=some a→w.heap.size+2≤a.block∧a.block ≠ p8)∧Ext w1 wx∧w1.heap.size≤p8)
 case first =>
  go_region_held3 (fun W=>Ext w1 W∧W.cell? ⟨w.heap.size,0,none⟩=some (.bool neg)∧W.cell? ⟨w.heap.size,1,none⟩=some (.slice A xs.length c)∧W.cell? ⟨w.heap.size,2,none⟩=some (.bool sep))
   ((refine (fun h=>⟨h,Ext.cell_ h k0,Ext.cell_ h k1,Ext.cell_ h k2⟩) ?_;first
    | with_reducible assumption
    | with_reducible exact Ext.drew_ (Ext.refl _)
    | with_reducible exact Ext.drew_ (Ext.alloc_ (Ext.refl _) _)
    | with_reducible exact Ext.alloc_ (by assumption) _
    | exact Ext.setCell_ (Ext.setCell_ (Ext.setCell_ (Ext.setCell_ hE4 hsz _ _) hsz _ _) hsz _ _) hsz _ _))
   (first
    | (go_at_call 41;with_reducible refine (HG1.out w1.drew (Ext.drew_ (Ext.refl _))).mono ?_;rintro e w4 ⟨E,c',rfl,hrE,hfE,hx4⟩;have hE4:=(Ext.drew_ (Ext.refl w1)).trans hx4)
    | (go_at_call 41;with_reducible refine (HG1.out (w1.alloc (Obj.cells #[.bool false,.slice none 0 0,.bool false,.slice none 0 0] 43)).drew (Ext.drew_ (Ext.alloc_ (Ext.refl _) _))).mono ?_;rintro e w4 ⟨E,c',rfl,hrE,hfE,hx4⟩;have hE4:=(Ext.drew_ (Ext.alloc_ (Ext.refl w1) (Obj.cells #[.bool false,.slice none 0 0,.bool false,.slice none 0 0] 43))).trans hx4;have hz:Box w4 w1.heap.size 43 [.bool false,.slice none 0 0,.bool false,.slice none 0 0]:=Box.ext (Box.drew (Box.new w1 43 [.bool false,.slice none 0 0,.bool false,.slice none 0 0])) hx4;obtain ⟨z0,z1,z2,z3,f0,f1,f2,f3⟩:=box4 hz;have hsz:w1.heap.size≤w1.heap.size:=Nat.le_refl _))
  all_goals go_wp2_with fail
  all_goals go_meet
  all_goals first
   | exact ⟨_,E,c',rfl,Box.new w4 43 [.bool neg,.slice E X.length c',.bool sep,.slice none 0 0],hrE.alloc _,fun a ha=>⟨by have h1:w1.heap.size≤a.block:=hfE a ha;have h2:=HSZ.out;omega,fun e=>by have:=(acc_lt hrE ha).2;omega⟩,Ext.alloc_ hE4 _,hE4.size⟩
   | exact ⟨_,E,c',rfl,(((hz.setCell 0 (.bool neg)).setCell 1 (.slice E X.length c')).setCell 2 (.bool sep)).setCell 3 (.slice none 0 0),acc_off (r:=w1.heap.size) hrE (HX1.out.trans (Ext.setCell_ (Ext.setCell_ (Ext.setCell_ (Ext.setCell_ hE4 hsz _ _) hsz _ _) hsz _ _) hsz _ _)) (fun a ha=>by have h1:(w1.alloc (Obj.cells #[.bool false,.slice none 0 0,.bool false,.slice none 0 0] 43)).heap.size≤a.block:=hfE a ha;have h3:=size_up w1 (Obj.cells #[.bool false,.slice none 0 0,.bool false,.slice none 0 0] 43);omega) (fun k hk=>off4 hk),fun a ha=>by have h1:(w1.alloc (Obj.cells #[.bool false,.slice none 0 0,.bool false,.slice none 0 0] 43)).heap.size≤a.block:=hfE a ha;have h3:=size_up w1 (Obj.cells #[.bool false,.slice none 0 0,.bool false,.slice none 0 0] 43);have h2:=HSZ.out;omega,Ext.setCell_ (Ext.setCell_ (Ext.setCell_ (Ext.setCell_ hE4 hsz _ _) hsz _ _) hsz _ _) hsz _ _,hsz⟩
 case rest =>
  obtain ⟨p8,E,c',rfl,hb8,hrE,hfE,hx8,hp8⟩:=hcut
  have HFE:=Lib.hid hfE
  have HC8:=Lib.hid (HC1.out.ext hx8)
  have HX8:=Lib.hid (HX1.out.trans hx8)
  have HE8:=Lib.hid hrE
  have HB8:=Lib.hid hb8
  have hle:w.heap.size≤w.heap.size+1:=Nat.le_succ _
  have k2:=Ext.cell_ hx8 k2
  have k3:=(HB1.out.ext hx8).cell (j:=3) (v:=.slice B ys.length e0) rfl
  have HP8:Hid (w.heap.size≤p8):=Lib.hid (by have:=HX1.out.size;omega)
  have HQ8:Hid (w.heap.size+1 < p8):=Lib.hid (by have:=HC1.out.lt;omega)
  have HX18:=Lib.hid hx8
  clear hx8 hrE hfE hp8 HG1
  cases sep
  ·have HGX:Hid (goodD ⟨neg,xs,false,ys⟩ m n=⟨neg,X,false,[]⟩):=Lib.hid (by rw [HG.out];rfl)
   have HR8:=Lib.hid hb8.range
   clear hb8
   go_wp2_with (first
    | (refine wpList_load_mid rfl 43 (.tmp 7) rfl p8 0 rfl [.bool neg,.slice E X.length c',.bool false,.slice none 0 0] _ HR8.out Tryz.underlying43 rfl infoD14 ?_)
    | (refine wpList_store_row rfl 43 (.tmp 6) (.tmp 24) rfl (w.heap.size+1) ([.bool neg,.slice E X.length c',.bool false,.slice none 0 0]:List Value).toArray rfl rfl _ _ HC8.out infoD14 rfl (by simp [Value.oneCell']) ?_))
   have hb9:=HC8.out.set ([.bool neg,.slice E X.length c',.bool false,.slice none 0 0]:List Value).toArray
   refine bodyPost_ret (v:=.agg ([.bool neg,.slice E X.length c',.bool false,.slice none 0 0]:List Value).toArray) (results_cell_row rfl _ _ (w.heap.size+1) _ _ _ _ rfl hb9 Tryz.underlying43 rfl infoD14) rfl ⟨E,none,c',0,by rw [HGX.out];rfl,?_,by rw [HGX.out];exact .inl rfl,⟨Nat.zero_le _,fun _=>rfl⟩,apart_ fun a b _ h=>(by cases h),Ext.setRow HX8.out hle _⟩
   rw [HGX.out]
   exact acc_off (r:=w.heap.size+1) HE8.out (Ext.setRow HX8.out hle _) (fun a ha=>by have:=(HFE.out a ha).1;omega) (fun k hk=>setRow_other _ _ k _ hk)
  ·have HGX:Hid (goodD ⟨neg,xs,true,ys⟩ m n=⟨neg,X,true,Y⟩):=Lib.hid (by rw [HG.out];rfl)
   clear hb8
   go_upto_region 4 with (go_at_call 41;with_reducible refine (HG2.out _ HX18.out).mono ?_;rintro e w9 ⟨F,cF,rfl,hrF,hoF,hfF,hx9⟩;have HAP:Hid (Apart E F):=Lib.hid (apart_ fun a b ha hb=>by have h1:=(acc_lt HE8.out ha).2;have h2:=hfF b hb;omega);have hb9:=HB8.out.ext hx9;have y3:=hb9.cell (j:=3) (v:=.slice none 0 0) rfl;have g3:=hb9.frozen 3)
   have hb10:=hb9.setCell 3 (.slice F Y.length cF)
   have HR10:Hid ((w9.setCell ⟨p8,3,none⟩ (.slice F Y.length cF)).rangeAt p8 0 [.bool neg,.slice E X.length c',.bool true,.slice F Y.length cF]):=Lib.hid hb10.range
   have HE10:=Lib.hid (acc_off (r:=p8) (HE8.out.step hx9) (Ext.setCell_ (HX8.out.trans hx9) HP8.out 3 (.slice F Y.length cF)) (fun a ha=>(HFE.out a ha).2) (fun k hk=>heap_setCell_other _ _ k _ hk))
   have HF10:=Lib.hid (ints_setCell hb9 hrF (by simp [isInt]) 3 (.slice F Y.length cF))
   have hne:w.heap.size+1 ≠ p8:=by have:=HQ8.out;omega
   have HC10:=Lib.hid ((HC8.out.ext hx9).setCell1 p8 (.slice F Y.length cF) (fun e=>hne e.symm) 3)
   have HX10:=Lib.hid (Ext.setCell_ (HX8.out.trans hx9) HP8.out 3 (.slice F Y.length cF))
   clear hb9 hb10 y3 g3 hx9 hrF
   generalize w9.setCell ⟨p8,3,none⟩ (.slice F Y.length cF)=w10 at *
   go_wp2_with (first
    | (refine wpList_load_mid rfl 43 (.tmp 7) rfl p8 0 rfl [.bool neg,.slice E X.length c',.bool true,.slice F Y.length cF] _ HR10.out Tryz.underlying43 rfl infoD14 ?_)
    | (refine wpList_store_row rfl 43 (.tmp 6) (.tmp 24) rfl (w.heap.size+1) ([.bool neg,.slice E X.length c',.bool true,.slice F Y.length cF]:List Value).toArray rfl rfl _ _ HC10.out infoD14 rfl (by simp [Value.oneCell']) ?_))
   have hb11:=HC10.out.set ([.bool neg,.slice E X.length c',.bool true,.slice F Y.length cF]:List Value).toArray
   refine bodyPost_ret (v:=.agg ([.bool neg,.slice E X.length c',.bool true,.slice F Y.length cF]:List Value).toArray) (results_cell_row rfl _ _ (w.heap.size+1) _ _ _ _ rfl hb11 Tryz.underlying43 rfl infoD14) rfl ⟨E,F,c',cF,by rw [HGX.out];rfl,?_,by rw [HGX.out];exact ints_setRow HC10.out HF10.out (by simp [isInt,zeroD]) _,hoF,HAP.out,Ext.setRow HX10.out hle _⟩
   rw [HGX.out]
   exact acc_off (r:=w.heap.size+1) HE10.out (Ext.setRow HX10.out hle _) (fun a ha=>by have:=(HFE.out a ha).1;omega) (fun k hk=>setRow_other _ _ k _ hk)
end Go.Proofs.YtcghgkagpkmpeaaGreatDoor.Loc
