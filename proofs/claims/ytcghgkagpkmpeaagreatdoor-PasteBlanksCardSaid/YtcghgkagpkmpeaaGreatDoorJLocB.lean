/- Joined by wip/join.py: LReg Loc6w Loc7 Loc8. -/
import Derived.Test.YtcghgkagpkmpeaaGreatDoorJLocA
import Derived.Deep.RegionHeld3
import Derived.Test.YtcghgkagpkmpeaaGreatDoorJPat4
set_option linter.unusedVariables false
set_option linter.unusedSimpArgs false
set_option maxHeartbeats 16000000
namespace Go.Proofs.YtcghgkagpkmpeaaGreatDoor.Loc
open Go.RowKit
theorem take_ {P:Program} {l:List Oper} {Q:Exit→Act→World→Prop} {md:Region.Mode} {S:World→Prop} {oi:Oper} {v:Value} {fuel:Nat} {listed:Array Bool} {a:Act} {w:World}
  (i:Nat) (hi:l[i]? = some oi) (hs:Region.noSelect l.toArray=true) (hf:Region.free md l.toArray listed i=true) (hr:(Region.ready md l.toArray listed).contains i=true)
  (hQ:∀ c a w,Q (.panic c) (a.put oi.dst v) w→Q (.panic c) a w) (hS:S w) (hw:Region.wanted oi (yielded l.toArray a.tmps)=true) (hy:∀ w,S w→(execOp a.eval oi).run P w=.ok (.value v) w)
  (h:wpAnyH P md l.toArray Q S fuel (listed.setIfInBounds i true) (a.put oi.dst v) w):wpAnyH P md l.toArray Q S (fuel+1) listed a w :=
 wpAnyH_take (i:=i) (by rw [List.getElem?_toArray];exact hi) hs hf hr hQ (Or.inl ⟨hw,hy⟩) hS h
theorem skip_ {P:Program} {l:List Oper} {Q:Exit→Act→World→Prop} {md:Region.Mode} {S:World→Prop} {oi:Oper} {fuel:Nat} {listed:Array Bool} {a:Act} {w:World}
  (i:Nat) (hi:l[i]? = some oi) (hs:Region.noSelect l.toArray=true) (hf:Region.free md l.toArray listed i=true) (hr:(Region.ready md l.toArray listed).contains i=true)
  (hQ:∀ c a w,Q (.panic c) (a.put oi.dst undef) w→Q (.panic c) a w) (hS:S w) (hw:Region.wanted oi (yielded l.toArray a.tmps)=false)
  (h:wpAnyH P md l.toArray Q S fuel (listed.setIfInBounds i true) (a.put oi.dst undef) w):wpAnyH P md l.toArray Q S (fuel+1) listed a w :=
 wpAnyH_take (i:=i) (by rw [List.getElem?_toArray];exact hi) hs hf hr hQ (Or.inr ⟨hw,rfl⟩) hS h
theorem only_ {P:Program} {l:List Oper} {Q:Exit→Act→World→Prop} {md:Region.Mode} {S:World→Prop} {o:Oper} {fuel:Nat} {listed:Array Bool} {a:Act} {w:World}
  (i:Nat) (hi:l[i]? = some o) (hr:Region.ready md l.toArray listed=[i])
  (h:∀ K:Act→World→Prop,Shut (∀ a w,S w→(S w→wpAnyH P md l.toArray Q S fuel (listed.setIfInBounds i true) a w)→K a w)→if Region.wanted o (yielded l.toArray a.tmps)=true then Oper.wp P o a w K Q else K (a.put o.dst undef) w) :
  wpAnyH P md l.toArray Q S (fuel+1) listed a w :=
 wpAnyH_ready (rs:=[i]) hr (by simp) (AllReadyH.cons (by rw [List.getElem?_toArray];exact hi) h AllReadyH.nil)
theorem sA {α:Type _} (l:List α) (i:Nat) (a:α):l.toArray.setIfInBounds i a=(l.set i a).toArray:=List.setIfInBounds_toArray l i a
theorem sZ {α:Type _} {x:α} {xs:List α} {a:α}:(x :: xs).set 0 a=a :: xs:=List.set_cons_zero
theorem sS {α:Type _} {x:α} {xs:List α} {i:Nat} {a:α}:(x :: xs).set (i+1) a=x :: xs.set i a:=List.set_cons_succ
theorem rg_ {P:Program} {ops:Array Oper} {Q:Exit→Act→World→Prop} {S:World→Prop} {id:Nat} {a:Act} {w:World} (hS:S w.drew)
  (h:S w.drew→wpAnyH P .any ops (NoPanic Q) S ops.size (Array.replicate ops.size false) a w.drew) (hm:P.follows .mixedOrders=true:=by kernel_rfl):(Code.region id ops true).wp P Q a w :=
 wp_region_noPanic (wp_region_held_drew hm hS h)
theorem dn_ {P:Program} {md:Region.Mode} {ops:Array Oper} {Q:Exit→Act→World→Prop} {S:World→Prop} {fuel:Nat} {listed:Array Bool} {a:Act} {w:World} (h:Q .normal a w)
  (hr:Region.ready md ops listed=[]:=by kernel_rfl):wpAnyH P md ops (NoPanic Q) S fuel listed a w:=wpAnyH_done hr (NoPanic.normal h) _
theorem tk_ {P:Program} {l:List Oper} {Q:Exit→Act→World→Prop} {md:Region.Mode} {S:World→Prop} {oi:Oper} {v:Value} {fuel:Nat} {listed:Array Bool} {a:Act} {w:World}
  (i:Nat) (hS:S w) (h:wpAnyH P md l.toArray Q S fuel (listed.setIfInBounds i true) (a.put oi.dst v) w)
  (hi:l[i]? = some oi:=by rfl) (hs:Region.noSelect l.toArray=true:=by kernel_rfl) (hf:Region.free md l.toArray listed i=true:=by kernel_rfl) (hr:(Region.ready md l.toArray listed).contains i=true:=by kernel_rfl)
  (hQ:∀ c a w,Q (.panic c) (a.put oi.dst v) w→Q (.panic c) a w:=by exact fun _ _ _ h=>h) (hw:Region.wanted oi (yielded l.toArray a.tmps)=true:=by rfl)
  (hy:∀ w,S w→(execOp a.eval oi).run P w=.ok (.value v) w:=by intro w hSw;(try dsimp only at hSw);go_simp;all_goals with_reducible rfl):wpAnyH P md l.toArray Q S (fuel+1) listed a w :=
 take_ i hi hs hf hr hQ hS hw hy h
theorem sk_ {P:Program} {l:List Oper} {Q:Exit→Act→World→Prop} {md:Region.Mode} {S:World→Prop} {oi:Oper} {fuel:Nat} {listed:Array Bool} {a:Act} {w:World}
  (i:Nat) (hS:S w) (h:wpAnyH P md l.toArray Q S fuel (listed.setIfInBounds i true) (a.put oi.dst undef) w)
  (hi:l[i]? = some oi:=by rfl) (hs:Region.noSelect l.toArray=true:=by kernel_rfl) (hf:Region.free md l.toArray listed i=true:=by kernel_rfl) (hr:(Region.ready md l.toArray listed).contains i=true:=by kernel_rfl)
  (hQ:∀ c a w,Q (.panic c) (a.put oi.dst undef) w→Q (.panic c) a w:=by exact fun _ _ _ h=>h) (hw:Region.wanted oi (yielded l.toArray a.tmps)=false:=by rfl):wpAnyH P md l.toArray Q S (fuel+1) listed a w :=
 skip_ i hi hs hf hr hQ hS hw h
theorem on_ {P:Program} {l:List Oper} {Q:Exit→Act→World→Prop} {md:Region.Mode} {S:World→Prop} {o:Oper} {fuel:Nat} {listed:Array Bool} {a:Act} {w:World}
  (i:Nat) (h:∀ K:Act→World→Prop,Shut (∀ a w,S w→(S w→wpAnyH P md l.toArray Q S fuel (listed.setIfInBounds i true) a w)→K a w)→if Region.wanted o (yielded l.toArray a.tmps)=true then Oper.wp P o a w K Q else K (a.put o.dst undef) w)
  (hi:l[i]? = some o:=by rfl) (hr:Region.ready md l.toArray listed=[i]:=by kernel_rfl):wpAnyH P md l.toArray Q S (fuel+1) listed a w :=
 only_ i hi hr h
open Go.RowKit Utf All Small Strs Build EncC Pat Cls Go.Proofs.YtcghgkagpkmpeaaGreatDoor.Sys
set_option maxRecDepth 1000000
theorem rules_ (g:Nat) (A B C D:Option Addr) (c d a b:Nat) (l:Loc) (w:World) (h:LocR w g A B C D c d a b l) (ht:Tabs w) :
  Calls Tryz.prog 67 #[.pointer (some ⟨g,0,none⟩)] w fun e w'=>∃ E bl br u5 u6 u7 u8 u12,e=.returned (.slice E 13 13)∧RuleR w' g bl br A B C D c d a b l∧Row w' E (rulesV (fnsV bl br u5 u6 u7 u8 u12)) ∧
   isSpare bl l.r.percent 2 u5 w'∧isSpare bl l.r.currency 1 u6 w'∧isSome bl F8 u7 w'∧isSome bl (F9 bl) u8 w'∧isSome bl (F13 bl) u12 w'∧Ext w w':=by
 have b1:=Box.new w 24 [.pointer (some ⟨g,0,none⟩)]
 have hx1:Ext w (w.alloc (.cells ([.pointer (some ⟨g,0,none⟩)]:List Value).toArray 24)):=Ext.alloc_ (Ext.refl w) _
 have hz1:(w.alloc (.cells ([.pointer (some ⟨g,0,none⟩)]:List Value).toArray 24)).heap.size=w.heap.size+1:=by simp
 have HL:=Lib.hid h
 clear h
 go_enter Tryz.func67,Tryz.ntmps67
 go_upto_region 1 with fail
 change Code.wp _ _ _ _ (w.alloc (.cells ([.pointer (some ⟨g,0,none⟩)]:List Value).toArray 24))
 generalize w.alloc (.cells ([.pointer (some ⟨g,0,none⟩)]:List Value).toArray 24)=w1 at *
 have hr:w1.rangeAt g 0 (recV l.r):=fun j v hv=>by
  rw [Nat.zero_add]
  refine (HL.out.ext hx1).cell ?_
  unfold locV
  rw [List.getElem?_append_left (by exact (List.getElem?_eq_some_iff.1 hv).1)];exact hv
 have HR:=Lib.hid hr
 have k0:=b1.cell (j:=0) rfl
 have B1:=Lib.hid b1
 have HX1:=Lib.hid hx1
 have HZ1:=Lib.hid hz1
 clear b1 hx1 hz1 hr
 go_upto_region 4 with (first
  | (refine wpList_load_mid rfl 84 (.tmp 8) rfl g 0 rfl (recV l.r) _ HR.out Tryz.underlying84 rfl infoRec ?_)
  | (refine wpList_store_fresh rfl 84 (.tmp 3) (.tmp 9) rfl (recV l.r).toArray 84 _ rfl rfl infoRec rfl (rec_one _) ?_))
 rename_i K hK
 have hb2:=Box.new w1 84 (recV l.r)
 have hx2:Ext w1 (w1.alloc (.cells (recV l.r).toArray 84)):=Ext.alloc_ (Ext.refl w1) _
 generalize w1.alloc (.cells (recV l.r).toArray 84)=w2 at *
 have hrr:RuleR w2 g w.heap.size w1.heap.size A B C D c d a b l:=⟨(HL.out.ext HX1.out).ext hx2,Ext.cell_ hx2 k0,fun j v hv=>hb2.cell hv,(ht.ext HX1.out).ext hx2⟩
 have k6:=hb2.cell (j:=6) (v:=.string ⟨l.r.percent.toArray⟩) rfl
 have k7:=hb2.cell (j:=7) (v:=.string ⟨l.r.currency.toArray⟩) rfl
 have HRR:=Lib.hid hrr
 have HXX:=Lib.hid (HX1.out.trans hx2)
 clear hrr hx2 hb2 HR B1 k0 HL ht HX1 HZ1
 generalize w1.heap.size=br at *
 generalize hbl:w.heap.size=bl at *
 --REGION
 refine wp_region_noPanic ?_
 refine wp_region_held_drew (S:=fun W=>Ext w2 W∧W.cell? ⟨br,6,none⟩=some (.string ⟨l.r.percent.toArray⟩)∧W.cell? ⟨br,7,none⟩=some (.string ⟨l.r.currency.toArray⟩)) (by kernel_rfl) ?_ (fun hHeld=>?_)
 ·exact ⟨Ext.drew_ (Ext.refl _),k6,k7⟩
 refine take_ 0 (v:=?_) rfl (by kernel_rfl) (by kernel_rfl) (by kernel_rfl) (fun _ _ _ h=>h) hHeld (by rfl) ?_ ?_
 rotate_left 1
 ·(intro w hSw;(try dsimp only at hSw);go_simp;all_goals with_reducible rfl)
 try simp only [Act.put,List.setIfInBounds_toArray,List.set_cons_zero,List.set_cons_succ]
 refine take_ 1 (v:=?_) rfl (by kernel_rfl) (by kernel_rfl) (by kernel_rfl) (fun _ _ _ h=>h) hHeld (by rfl) ?_ ?_
 rotate_left 1
 ·(intro w hSw;(try dsimp only at hSw);go_simp;all_goals with_reducible rfl)
 try simp only [Act.put,List.setIfInBounds_toArray,List.set_cons_zero,List.set_cons_succ]
 refine take_ 2 (v:=?_) rfl (by kernel_rfl) (by kernel_rfl) (by kernel_rfl) (fun _ _ _ h=>h) hHeld (by rfl) ?_ ?_
 rotate_left 1
 ·(intro w hSw;(try dsimp only at hSw);go_simp;all_goals with_reducible rfl)
 try simp only [Act.put,List.setIfInBounds_toArray,List.set_cons_zero,List.set_cons_succ]
 refine take_ 3 (v:=?_) rfl (by kernel_rfl) (by kernel_rfl) (by kernel_rfl) (fun _ _ _ h=>h) hHeld (by rfl) ?_ ?_
 rotate_left 1
 ·(intro w hSw;(try dsimp only at hSw);go_simp;all_goals with_reducible rfl)
 try simp only [Act.put,List.setIfInBounds_toArray,List.set_cons_zero,List.set_cons_succ]
 refine take_ 4 (v:=?_) rfl (by kernel_rfl) (by kernel_rfl) (by kernel_rfl) (fun _ _ _ h=>h) hHeld (by rfl) ?_ ?_
 rotate_left 1
 ·(intro w hSw;(try dsimp only at hSw);go_simp;all_goals with_reducible rfl)
 try simp only [Act.put,List.setIfInBounds_toArray,List.set_cons_zero,List.set_cons_succ]
 refine take_ 5 (v:=?_) rfl (by kernel_rfl) (by kernel_rfl) (by kernel_rfl) (fun _ _ _ h=>h) hHeld (by rfl) ?_ ?_
 rotate_left 1
 ·(intro w hSw;(try dsimp only at hSw);go_simp;all_goals with_reducible rfl)
 try simp only [Act.put,List.setIfInBounds_toArray,List.set_cons_zero,List.set_cons_succ]
 refine take_ 6 (v:=?_) rfl (by kernel_rfl) (by kernel_rfl) (by kernel_rfl) (fun _ _ _ h=>h) hHeld (by rfl) ?_ ?_
 rotate_left 1
 ·(intro w hSw;(try dsimp only at hSw);go_simp;all_goals with_reducible rfl)
 try simp only [Act.put,List.setIfInBounds_toArray,List.set_cons_zero,List.set_cons_succ]
 refine take_ 7 (v:=?_) rfl (by kernel_rfl) (by kernel_rfl) (by kernel_rfl) (fun _ _ _ h=>h) hHeld (by rfl) ?_ ?_
 rotate_left 1
 ·(intro w hSw;(try dsimp only at hSw);go_simp;all_goals with_reducible rfl)
 try simp only [Act.put,List.setIfInBounds_toArray,List.set_cons_zero,List.set_cons_succ]
 refine take_ 8 (v:=?_) rfl (by kernel_rfl) (by kernel_rfl) (by kernel_rfl) (fun _ _ _ h=>h) hHeld (by rfl) ?_ ?_
 rotate_left 1
 ·(intro w hSw;(try dsimp only at hSw);go_simp;all_goals with_reducible rfl)
 try simp only [Act.put,List.setIfInBounds_toArray,List.set_cons_zero,List.set_cons_succ]
 refine take_ 9 (v:=?_) rfl (by kernel_rfl) (by kernel_rfl) (by kernel_rfl) (fun _ _ _ h=>h) hHeld (by rfl) ?_ ?_
 rotate_left 1
 ·(intro w hSw;(try dsimp only at hSw);go_simp;all_goals with_reducible rfl)
 try simp only [Act.put,List.setIfInBounds_toArray,List.set_cons_zero,List.set_cons_succ]
 refine take_ 10 (v:=?_) rfl (by kernel_rfl) (by kernel_rfl) (by kernel_rfl) (fun _ _ _ h=>h) hHeld (by rfl) ?_ ?_
 rotate_left 1
 ·(intro w hSw;(try dsimp only at hSw);go_simp;all_goals with_reducible rfl)
 try simp only [Act.put,List.setIfInBounds_toArray,List.set_cons_zero,List.set_cons_succ]
 refine take_ 11 (v:=?_) rfl (by kernel_rfl) (by kernel_rfl) (by kernel_rfl) (fun _ _ _ h=>h) hHeld (by rfl) ?_ ?_
 rotate_left 1
 ·(intro w hSw;(try dsimp only at hSw);go_simp;all_goals with_reducible rfl)
 try simp only [Act.put,List.setIfInBounds_toArray,List.set_cons_zero,List.set_cons_succ]
 refine take_ 12 (v:=?_) rfl (by kernel_rfl) (by kernel_rfl) (by kernel_rfl) (fun _ _ _ h=>h) hHeld (by rfl) ?_ ?_
 rotate_left 1
 ·(intro w hSw;(try dsimp only at hSw);go_simp;all_goals with_reducible rfl)
 try simp only [Act.put,List.setIfInBounds_toArray,List.set_cons_zero,List.set_cons_succ]
 refine take_ 15 (v:=?_) rfl (by kernel_rfl) (by kernel_rfl) (by kernel_rfl) (fun _ _ _ h=>h) hHeld (by rfl) ?_ ?_
 rotate_left 1
 ·(intro w hSw;(try dsimp only at hSw);go_simp;all_goals with_reducible rfl)
 try simp only [Act.put,List.setIfInBounds_toArray,List.set_cons_zero,List.set_cons_succ]
 refine take_ 16 (v:=?_) rfl (by kernel_rfl) (by kernel_rfl) (by kernel_rfl) (fun _ _ _ h=>h) hHeld (by rfl) ?_ ?_
 rotate_left 1
 ·(intro w hSw;(try dsimp only at hSw);go_simp;all_goals with_reducible rfl)
 try simp only [Act.put,List.setIfInBounds_toArray,List.set_cons_zero,List.set_cons_succ]
 refine take_ 17 (v:=?_) rfl (by kernel_rfl) (by kernel_rfl) (by kernel_rfl) (fun _ _ _ h=>h) hHeld (by rfl) ?_ ?_
 rotate_left 1
 ·(intro w hSw;(try dsimp only at hSw);go_simp;all_goals with_reducible rfl)
 try simp only [Act.put,List.setIfInBounds_toArray,List.set_cons_zero,List.set_cons_succ]
 refine take_ 20 (v:=?_) rfl (by kernel_rfl) (by kernel_rfl) (by kernel_rfl) (fun _ _ _ h=>h) hHeld (by rfl) ?_ ?_
 rotate_left 1
 ·(intro w hSw;(try dsimp only at hSw);go_simp;all_goals with_reducible rfl)
 try simp only [Act.put,List.setIfInBounds_toArray,List.set_cons_zero,List.set_cons_succ]
 refine take_ 23 (v:=?_) rfl (by kernel_rfl) (by kernel_rfl) (by kernel_rfl) (fun _ _ _ h=>h) hHeld (by rfl) ?_ ?_
 rotate_left 1
 ·(intro w hSw;(try dsimp only at hSw);go_simp;all_goals with_reducible rfl)
 try simp only [Act.put,List.setIfInBounds_toArray,List.set_cons_zero,List.set_cons_succ]
 refine take_ 24 (v:=?_) rfl (by kernel_rfl) (by kernel_rfl) (by kernel_rfl) (fun _ _ _ h=>h) hHeld (by rfl) ?_ ?_
 rotate_left 1
 ·(intro w hSw;(try dsimp only at hSw);go_simp;all_goals with_reducible rfl)
 try simp only [Act.put,List.setIfInBounds_toArray,List.set_cons_zero,List.set_cons_succ]
 refine take_ 27 (v:=?_) rfl (by kernel_rfl) (by kernel_rfl) (by kernel_rfl) (fun _ _ _ h=>h) hHeld (by rfl) ?_ ?_
 rotate_left 1
 ·(intro w hSw;(try dsimp only at hSw);go_simp;all_goals with_reducible rfl)
 try simp only [Act.put,List.setIfInBounds_toArray,List.set_cons_zero,List.set_cons_succ]
 refine take_ 28 (v:=?_) rfl (by kernel_rfl) (by kernel_rfl) (by kernel_rfl) (fun _ _ _ h=>h) hHeld (by rfl) ?_ ?_
 rotate_left 1
 ·(intro w hSw;(try dsimp only at hSw);go_simp;all_goals with_reducible rfl)
 try simp only [Act.put,List.setIfInBounds_toArray,List.set_cons_zero,List.set_cons_succ]
 refine take_ 29 (v:=?_) rfl (by kernel_rfl) (by kernel_rfl) (by kernel_rfl) (fun _ _ _ h=>h) hHeld (by rfl) ?_ ?_
 rotate_left 1
 ·(intro w hSw;(try dsimp only at hSw);go_simp;all_goals with_reducible rfl)
 try simp only [Act.put,List.setIfInBounds_toArray,List.set_cons_zero,List.set_cons_succ]
 refine take_ 30 (v:=?_) rfl (by kernel_rfl) (by kernel_rfl) (by kernel_rfl) (fun _ _ _ h=>h) hHeld (by rfl) ?_ ?_
 rotate_left 1
 ·(intro w hSw;(try dsimp only at hSw);go_simp;all_goals with_reducible rfl)
 try simp only [Act.put,List.setIfInBounds_toArray,List.set_cons_zero,List.set_cons_succ]
 refine take_ 31 (v:=?_) rfl (by kernel_rfl) (by kernel_rfl) (by kernel_rfl) (fun _ _ _ h=>h) hHeld (by rfl) ?_ ?_
 rotate_left 1
 ·(intro w hSw;(try dsimp only at hSw);go_simp;all_goals with_reducible rfl)
 try simp only [Act.put,List.setIfInBounds_toArray,List.set_cons_zero,List.set_cons_succ]
 refine take_ 32 (v:=?_) rfl (by kernel_rfl) (by kernel_rfl) (by kernel_rfl) (fun _ _ _ h=>h) hHeld (by rfl) ?_ ?_
 rotate_left 1
 ·(intro w hSw;(try dsimp only at hSw);go_simp;all_goals with_reducible rfl)
 try simp only [Act.put,List.setIfInBounds_toArray,List.set_cons_zero,List.set_cons_succ]
 refine take_ 33 (v:=?_) rfl (by kernel_rfl) (by kernel_rfl) (by kernel_rfl) (fun _ _ _ h=>h) hHeld (by rfl) ?_ ?_
 rotate_left 1
 ·(intro w hSw;(try dsimp only at hSw);go_simp;all_goals with_reducible rfl)
 try simp only [Act.put,List.setIfInBounds_toArray,List.set_cons_zero,List.set_cons_succ]
 refine take_ 34 (v:=?_) rfl (by kernel_rfl) (by kernel_rfl) (by kernel_rfl) (fun _ _ _ h=>h) hHeld (by rfl) ?_ ?_
 rotate_left 1
 ·(intro w hSw;(try dsimp only at hSw);go_simp;all_goals with_reducible rfl)
 try simp only [Act.put,List.setIfInBounds_toArray,List.set_cons_zero,List.set_cons_succ]
 refine only_ 13 rfl (by kernel_rfl) (fun K1 hK1=>?_)
 go_simp
 go_at_call 121
 refine (spare_ l.r.percent 2 bl _).mono ?_
 rintro e w4 ⟨bs1,bk1,rfl,hs1,hk1,hx4⟩
 have hE4:=(Ext.drew_ (Ext.refl w2)).trans hx4
 refine hK1.out _ _ ⟨hE4,Ext.cell_ hE4 k6,Ext.cell_ hE4 k7⟩ (fun hHeld=>?_)
 clear hK1
 try simp only [Act.put,List.setIfInBounds_toArray,List.set_cons_zero,List.set_cons_succ]
 refine take_ 14 (v:=?_) rfl (by kernel_rfl) (by kernel_rfl) (by kernel_rfl) (fun _ _ _ h=>h) hHeld (by rfl) ?_ ?_
 rotate_left 1
 ·(intro w hSw;(try dsimp only at hSw);go_simp;all_goals with_reducible rfl)
 try simp only [Act.put,List.setIfInBounds_toArray,List.set_cons_zero,List.set_cons_succ]
 refine only_ 18 rfl (by kernel_rfl) (fun K1 hK1=>?_)
 go_simp
 go_at_call 121
 refine (spare_ l.r.currency 1 bl _).mono ?_
 rintro e w5 ⟨bs2,bk2,rfl,hs2,hk2,hx5⟩
 have hE5:=hE4.trans hx5
 refine hK1.out _ _ ⟨hE5,Ext.cell_ hE5 k6,Ext.cell_ hE5 k7⟩ (fun hHeld=>?_)
 clear hK1
 try simp only [Act.put,List.setIfInBounds_toArray,List.set_cons_zero,List.set_cons_succ]
 refine take_ 19 (v:=?_) rfl (by kernel_rfl) (by kernel_rfl) (by kernel_rfl) (fun _ _ _ h=>h) hHeld (by rfl) ?_ ?_
 rotate_left 1
 ·(intro w hSw;(try dsimp only at hSw);go_simp;all_goals with_reducible rfl)
 try simp only [Act.put,List.setIfInBounds_toArray,List.set_cons_zero,List.set_cons_succ]
 refine only_ 21 rfl (by kernel_rfl) (fun K1 hK1=>?_)
 go_simp
 go_at_call 125
 refine (some_ 138 #[] bl _).mono ?_
 rintro e w6 ⟨bo1,rfl,ho1,hx6⟩
 have hE6:=hE5.trans hx6
 refine hK1.out _ _ ⟨hE6,Ext.cell_ hE6 k6,Ext.cell_ hE6 k7⟩ (fun hHeld=>?_)
 clear hK1
 try simp only [Act.put,List.setIfInBounds_toArray,List.set_cons_zero,List.set_cons_succ]
 refine take_ 22 (v:=?_) rfl (by kernel_rfl) (by kernel_rfl) (by kernel_rfl) (fun _ _ _ h=>h) hHeld (by rfl) ?_ ?_
 rotate_left 1
 ·(intro w hSw;(try dsimp only at hSw);go_simp;all_goals with_reducible rfl)
 try simp only [Act.put,List.setIfInBounds_toArray,List.set_cons_zero,List.set_cons_succ]
 refine only_ 25 rfl (by kernel_rfl) (fun K1 hK1=>?_)
 go_simp
 go_at_call 125
 refine (some_ 142 #[.pointer (some ⟨bl,0,none⟩)] bl _).mono ?_
 rintro e w7 ⟨bo2,rfl,ho2,hx7⟩
 have hE7:=hE6.trans hx7
 refine hK1.out _ _ ⟨hE7,Ext.cell_ hE7 k6,Ext.cell_ hE7 k7⟩ (fun hHeld=>?_)
 clear hK1
 try simp only [Act.put,List.setIfInBounds_toArray,List.set_cons_zero,List.set_cons_succ]
 refine take_ 26 (v:=?_) rfl (by kernel_rfl) (by kernel_rfl) (by kernel_rfl) (fun _ _ _ h=>h) hHeld (by rfl) ?_ ?_
 rotate_left 1
 ·(intro w hSw;(try dsimp only at hSw);go_simp;all_goals with_reducible rfl)
 try simp only [Act.put,List.setIfInBounds_toArray,List.set_cons_zero,List.set_cons_succ]
 refine only_ 35 rfl (by kernel_rfl) (fun K1 hK1=>?_)
 go_simp
 go_at_call 125
 refine (some_ 148 #[.pointer (some ⟨bl,0,none⟩)] bl _).mono ?_
 rintro e w8 ⟨bo3,rfl,ho3,hx8⟩
 have hE8:=hE7.trans hx8
 refine hK1.out _ _ ⟨hE8,Ext.cell_ hE8 k6,Ext.cell_ hE8 k7⟩ (fun hHeld=>?_)
 clear hK1
 try simp only [Act.put,List.setIfInBounds_toArray,List.set_cons_zero,List.set_cons_succ]
 refine take_ 36 (v:=?_) rfl (by kernel_rfl) (by kernel_rfl) (by kernel_rfl) (fun _ _ _ h=>h) hHeld (by rfl) ?_ ?_
 rotate_left 1
 ·(intro w hSw;(try dsimp only at hSw);go_simp;all_goals with_reducible rfl)
 try simp only [Act.put,List.setIfInBounds_toArray,List.set_cons_zero,List.set_cons_succ]
 refine only_ 37 rfl (by kernel_rfl) (fun K1 hK1=>?_)
 go_simp
 refine hK1.out _ _ ⟨Ext.alloc_ hE8 _,Ext.cell_ (Ext.alloc_ hE8 _) k6,Ext.cell_ (Ext.alloc_ hE8 _) k7⟩ (fun hHeld=>?_)
 clear hK1
 try simp only [Act.put,List.setIfInBounds_toArray,List.set_cons_zero,List.set_cons_succ]
 refine take_ 38 (v:=?_) rfl (by kernel_rfl) (by kernel_rfl) (by kernel_rfl) (fun _ _ _ h=>h) hHeld (by rfl) ?_ ?_
 rotate_left 1
 ·(intro w hSw;(try dsimp only at hSw);go_simp;all_goals with_reducible rfl)
 try simp only [Act.put,List.setIfInBounds_toArray,List.set_cons_zero,List.set_cons_succ]
 refine wpAnyH_done (by kernel_rfl) ?_ _
 refine NoPanic.normal ?_
 --END OF REGION
 all_goals refine hK _ _ ?_
 all_goals clear hK
 all_goals go_wp2
 all_goals go_ret
 all_goals
  have q8:∀ o,Ext w8 (w8.alloc o):=fun o=>Ext.alloc_ (Ext.refl _) _
  have q7:=fun o=>hx8.trans (q8 o)
  have q6:=fun o=>hx7.trans (q7 o)
  have q5:=fun o=>hx6.trans (q6 o)
  have q4:=fun o=>hx5.trans (q5 o)
  refine ⟨some ⟨w8.heap.size,0,none⟩,bl,br,spareV bs1 bl bk1,spareV bs2 bl bk2,someV bl bo1,someV bl bo2,someV bl bo3,rfl,HRR.out.ext (hE8.trans (q8 _)),?_,?_,?_,?_,?_,?_,HXX.out.trans (hE8.trans (q8 _))⟩
  ·exact row_new w8 (rulesV (fnsV bl br (spareV bs1 bl bk1) (spareV bs2 bl bk2) (someV bl bo1) (someV bl bo2) (someV bl bo3))) _
  ·exact isSpare.ext (q4 _) ⟨bs1,bk1,rfl,hs1,hk1⟩
  ·exact isSpare.ext (q5 _) ⟨bs2,bk2,rfl,hs2,hk2⟩
  ·exact isSome.ext (q6 _) ⟨bo1,rfl,ho1⟩
  ·exact isSome.ext (q7 _) ⟨bo2,rfl,ho2⟩
  ·exact isSome.ext (q8 _) ⟨bo3,rfl,ho3⟩
open Go.RowKit Utf All Small Strs Build EncC Pat Cls Dec Go.Proofs.YtcghgkagpkmpeaaGreatDoor.Sys
set_option maxRecDepth 512
def okC (c:Int):Bool:=decide (97≤c∧c≤122) || decide (65≤c∧c≤90) || decide (48≤c∧c≤57) || decide (c=45) || decide (c=95)
def nameZ (l:List UInt8):Bool:=decide (l ≠ []) && decide (l.length≤16) && (charsL l).all okC
theorem named1 (c:Int) (w:World) (h:okC c=true):Calls Tryz.prog 110 #[.int .i32 c] w fun e w'=>e=.returned (.bool false)∧w=w':=by
 have hc:(97≤c∧c≤122)∨(65≤c∧c≤90)∨(48≤c∧c≤57)∨c=45∨c=95:=by
  unfold okC at h;simp at h;omega
 clear h
 rcases hc with ⟨h1,h2⟩ | ⟨h1,h2⟩ | ⟨h1,h2⟩ | rfl | rfl
 ·go_enter Tryz.func110,Tryz.ntmps110
  go_wp2
  go_ret
  exact ⟨rfl,rfl⟩
 ·have n1:¬ 97≤c:=by omega
  go_enter Tryz.func110,Tryz.ntmps110
  go_wp2
  go_ret
  exact ⟨rfl,rfl⟩
 ·have n1:¬ 97≤c:=by omega
  have n2:¬ 65≤c:=by omega
  go_enter Tryz.func110,Tryz.ntmps110
  go_wp2
  go_ret
  exact ⟨rfl,rfl⟩
 ·go_enter Tryz.func110,Tryz.ntmps110
  go_wp2
  go_ret
  exact ⟨rfl,rfl⟩
 ·go_enter Tryz.func110,Tryz.ntmps110
  go_wp2
  go_ret
  exact ⟨rfl,rfl⟩
set_option maxRecDepth 100000
theorem idx_named (s:ByteArray) (w:World) (hs:s.size≤1000000) (h:(charsL s.data.toList).all okC=true) :
  Calls Tryz.prog 200 #[.string s,.func (.func 110) #[] #[],.bool true] w fun e w'=>e=.returned (.int .i64 (-1))∧Ext w w':=by
 have H:=Lib.hid h
 clear h
 go_enter Tryz.func200,Tryz.ntmps200
 go_wp2
 go_loopw [7,8] (fun _ _ wr=>∃ (p:Nat),p≤s.size∧wr.heap[w.heap.size]? = some (.stringIter s p)∧Acc 9 1 w wr none 0 0 []∧Hid ((charsL (s.data.toList.drop p)).all okC=true)) (fun _ _ wr=>s.size - posAt wr w.heap.size)
 case atStart=>exact ⟨0,Nat.zero_le _,heap_alloc_new w _,(Acc.start _ _ _).step ((Below.refl _ _).alloc (Nat.le_refl _) _),H⟩
 case round =>
  obtain ⟨p,hp,hr,hacc,HC⟩:=hrel
  rcases next_str wr 0 w.heap.size s p hr with ⟨hend,hrun⟩ | ⟨hlt,w2,hrun,hr2,hg2⟩
  ·have hnx:∀ ty,(Instr.next (.pointer (some ⟨w.heap.size,0,none⟩)) true ty).run Tryz.prog wr=_:=fun _=>hrun
   clear hrun
   go_wp2
   go_ret
   exact ⟨rfl,hacc.ext⟩
  ·have hnx:∀ ty,(Instr.next (.pointer (some ⟨w.heap.size,0,none⟩)) true ty).run Tryz.prog wr=_:=fun _=>hrun
   have hne:=hacc.ne_obj hr (iter_no_cells _ _)
   have hacc2:=hacc.turn hg2 hne (Nat.le_refl _)
   have hwd:=dec_width (drop_ne hlt)
   have hdd:=decode_dec s p
   have HX:Hid (okC (dec (s.data.toList.drop p)).1=true∧(charsL (s.data.toList.drop (p+(dec (s.data.toList.drop p)).2))).all okC=true):=Lib.hid (by
    have:=HC.out
    rw [chars_cons (drop_ne hlt),List.all_cons,Bool.and_eq_true,List.drop_drop] at this
    exact this)
   rw [← hdd] at HX hwd
   have hl2:(s.data.toList.drop p).length=s.size - p:=by rw [List.length_drop,data_len]
   rw [hl2] at hwd
   clear hrun hdd hacc HC hl2 hne
   generalize (Utf8.decode s p).1=d at *
   generalize (Utf8.decode s p).2=wd at *
   obtain ⟨hw1,hw2⟩:=hwd
   have HP1:=Lib.hid (posAt_of hr2)
   have HP0:=Lib.hid (posAt_of hr)
   have HN:=Lib.hid (named1 (d:Int) w2 HX.out.1)
   go_wp2_with (go_at_call 110;with_reducible refine HN.out.mono ?_;rintro e w3 ⟨rfl,rfl⟩)
   go_roundw
   case rel=>exact ⟨p+wd,by omega,hr2,hacc2,Lib.hid HX.out.2⟩
   case measure=>rw [HP1.out,HP0.out];omega
set_option maxRecDepth 512
theorem named_ (l:List UInt8) (w:World) (h:nameZ l=true):Calls Tryz.prog 62 #[.string ⟨l.toArray⟩] w fun e w'=>e=.returned (.bool true)∧Ext w w':=by
 unfold nameZ at h
 simp only [Bool.and_eq_true,decide_eq_true_eq] at h
 obtain ⟨⟨h0,h16⟩,hc⟩:=h
 have hd:(⟨l.toArray⟩:ByteArray).data.toList=l:=by simp
 have HI:Hid (∀ W,Calls Tryz.prog 200 #[.string ⟨l.toArray⟩,.func (.func 110) #[] #[],.bool true] W fun e w'=>e=.returned (.int .i64 (-1))∧Ext W w'):=Lib.hid fun W=>idx_named ⟨l.toArray⟩ W (by rw [sizeL];omega) (by rw [hd];exact hc)
 have hsz:((⟨l.toArray⟩:ByteArray).size:Int)≤16:=by rw [sizeL];omega
 have hne:(⟨l.toArray⟩:ByteArray).toList.isEmpty=false:=by
  rw [ByteArray.toList_eq,hd]
  cases l with
  | nil=>exact absurd rfl h0
  | cons _ _=>rfl
 clear hd hc h0 h16
 generalize (⟨l.toArray⟩:ByteArray)=s at *
 have HCF:Hid (∀ W,Calls Tryz.prog 111 #[.string s,.func (.func 110) #[] #[]] W fun e w'=>e=.returned (.bool false)∧Ext W w'):=Lib.hid fun W=>by
  have HIF:Hid (∀ W,Calls Tryz.prog 176 #[.string s,.func (.func 110) #[] #[]] W fun e w'=>e=.returned (.int .i64 (-1))∧Ext W w'):=Lib.hid fun W=>by
   clear hne hsz
   go_enter Tryz.func176,Tryz.ntmps176
   go_wp2_with (go_at_call 200;with_reducible refine (HI.out _).mono ?_;rintro e w1 ⟨rfl,hx1⟩)
   go_ret
   exact ⟨rfl,hx1⟩
  clear hne hsz HI
  go_enter Tryz.func111,Tryz.ntmps111
  go_wp2_with (go_at_call 176;with_reducible refine (HIF.out _).mono ?_;rintro e w1 ⟨rfl,hx1⟩)
  go_ret
  exact ⟨rfl,hx1⟩
 clear HI
 go_enter Tryz.func62,Tryz.ntmps62
 go_wp2_with (go_at_call 111;with_reducible refine (HCF.out _).mono ?_;rintro e w1 ⟨rfl,hx1⟩)
 go_ret
 exact ⟨rfl,hx1⟩
theorem locV_set {A B C D:Option Addr} {c d a b:Nat} {r:Rec} {p:Pt} {ds:List (List UInt8)} (k:Nat) (t:List UInt8):(locV A B C D c d a b ⟨r,p,ds⟩).set (17+k) (sV t)=locV A B C D c d a b ⟨r,p,ds.set k t⟩:=by
 unfold locV
 rw [List.set_append_right _ _ (by simp [recV];omega),List.set_append_right _ _ (by simp [recV,patC];omega)]
 congr 2
 rw [List.map_set]
 congr 1
 simp [recV,patC];omega
theorem infoEnt:(Tryz.prog.info? 142).map (·.size)=some 3:=by kernel_rfl
theorem ent_range {W:World} {e o k:Nat} {fs:List Value} {x:(List UInt8 × Int) × Value} (h:Row W (some ⟨e,o,none⟩) (rulesV fs)) (hx:(wheres.zip fs)[k]? = some x):W.rangeAt e (o+k * 3) (entV x.1.1 x.1.2 x.2):=fun j v hv=>by
 have hk:k < (wheres.zip fs).length:=(List.getElem?_eq_some_iff.1 hx).1
 have hj:j < 3:=by have:=(List.getElem?_eq_some_iff.1 hv).1;simpa [entV] using this
 have h1:=flat_at (fun x:(List UInt8 × Int) × Value=>entV x.1.1 x.1.2 x.2) 3 (fun _=>rfl) (wheres.zip fs) k hk j hj
 have hxe:(wheres.zip fs)[k]=x:=(List.getElem?_eq_some_iff.1 hx).2
 rw [hxe,hv] at h1
 rw [Nat.add_assoc]
 exact h.cell0 h1
set_option maxRecDepth 1000000
theorem new_ (r:Rec) (p:Pt) (w:World) (hpat:parseF r.pattern=.ok p) (hlp:r.pattern.length≤100000000) (hnm:nameZ r.name=true) (M:MayL ⟨r,p,digs r⟩) (hT:Tabs w) :
  Calls Tryz.prog 31 #[.agg (recV r).toArray] w fun e w'=>∃ g A B C D c d a b,e=.returned (.tuple #[.pointer (some ⟨g,0,none⟩),.nilIface])∧LocR w' g A B C D c d a b ⟨r,p,digs r⟩∧Ext w w':=by
 have b1:=Box.new w 84 (recV r)
 have hx1:Ext w (w.alloc (.cells (recV r).toArray 84)):=Ext.alloc_ (Ext.refl w) _
 go_enter Tryz.func31,Tryz.ntmps31
 go_upto_region 1 with fail
 change Code.wp _ _ _ _ (w.alloc (.cells (recV r).toArray 84))
 generalize w.alloc (.cells (recV r).toArray 84)=w1 at *
 generalize hb:w.heap.size=br0 at *
 have HB:=Lib.hid hb
 clear hb
 have k0:=b1.cell (j:=0) (v:=.string ⟨r.name.toArray⟩) rfl
 have k1:=b1.cell (j:=1) (v:=.string ⟨r.pattern.toArray⟩) rfl
 have B1:=Lib.hid b1
 have HX1:=Lib.hid hx1
 have HN:Hid (Calls Tryz.prog 62 #[.string ⟨r.name.toArray⟩] w1 fun e w'=>e=.returned (.bool true)∧Ext w1 w'):=Lib.hid (named_ r.name w1 hnm)
 have HP:=Lib.hid (fun W=>parse_okl hpat W hlp)
 clear b1 hx1 hnm hpat
 go_wp2_with (go_at_call 62;with_reducible refine HN.out.mono ?_;rintro e w2 ⟨rfl,hx2⟩;have k1:=Ext.cell_ hx2 k1)
 refine (HP.out _).mono ?_
 rintro e w3 ⟨A,c,B,d,C,a,D,b,rfl,rA,rB,rC,rD,_,_,_,_,hx3⟩
 have hb3:=Box.new w3 131 (patC (.slice A p.pre.length c) (.slice B p.suf.length d) (.slice C p.npre.length a) (.slice D p.nsuf.length b) p.num)
 have hx4:Ext w3 (w3.alloc (.cells (patC (.slice A p.pre.length c) (.slice B p.suf.length d) (.slice C p.npre.length a) (.slice D p.nsuf.length b) p.num).toArray 131)):=Ext.alloc_ (Ext.refl _) _
 have HPT:Hid (PtR w3 A B C D p):=Lib.hid ⟨rA,rB,rC,rD⟩
 clear rA rB rC rD
 go_upto_region 6 with (refine wpList_store_fresh rfl 131 (.tmp 4) (.tmp 20) rfl (patC (.slice A p.pre.length c) (.slice B p.suf.length d) (.slice C p.npre.length a) (.slice D p.nsuf.length b) p.num).toArray 131 _ rfl rfl infoPat rfl pat_one ?_)
 generalize w3.alloc (.cells (patC (.slice A p.pre.length c) (.slice B p.suf.length d) (.slice C p.npre.length a) (.slice D p.nsuf.length b) p.num).toArray 131)=w4 at *
 have HX4:=Lib.hid ((hx2.trans hx3).trans hx4)
 have B4:=Lib.hid (B1.out.ext HX4.out)
 have HRG1:=Lib.hid B4.out.range
 have HRG2:=Lib.hid hb3.range
 have HPT4:=Lib.hid (HPT.out.ext hx4)
 clear hb3 hx4 hx2 hx3 k0 k1 HPT
 have hE1:w4.rangeAt br0 0 [.string ⟨r.name.toArray⟩,.string ⟨r.pattern.toArray⟩,.string ⟨r.system.toArray⟩,.string ⟨r.decimal.toArray⟩,.string ⟨r.group.toArray⟩,.string ⟨r.minus.toArray⟩,.string ⟨r.percent.toArray⟩,.string ⟨r.currency.toArray⟩]:=HRG1.out
 have hE2:w4.rangeAt w3.heap.size 0 [.slice A p.pre.length c,.slice B p.suf.length d,.slice C p.npre.length a,.slice D p.nsuf.length b,.int .i64 p.num.prim,.int .i64 p.num.sec,.int .i64 p.num.minInt,.int .i64 p.num.minFrac,.int .i64 p.num.maxFrac]:=HRG2.out
 have HE1:=Lib.hid hE1
 have HE2:=Lib.hid hE2
 have k2:=B4.out.cell (j:=2) (v:=.string ⟨r.system.toArray⟩) rfl
 have hb5:=Box.new w4 136 (locV A B C D c d a b ⟨r,p,digsTo r 0⟩)
 have hx5:Ext w4 (w4.alloc (.cells (locV A B C D c d a b ⟨r,p,digsTo r 0⟩).toArray 136)):=Ext.alloc_ (Ext.refl _) _
 clear hE1 hE2 HRG1 HRG2
 go_upto_region 7 with (first
  | (refine wpList_load_mid rfl 84 (.tmp 1) rfl br0 0 rfl _ _ HE1.out Tryz.underlying84 rfl infoRec ?_)
  | (refine wpList_load_mid rfl 131 (.tmp 4) rfl w3.heap.size 0 rfl _ _ HE2.out Tryz.underlying131 rfl infoPat ?_))
 change Code.wp _ _ _ _ (w4.alloc (.cells (locV A B C D c d a b ⟨r,p,digsTo r 0⟩).toArray 136))
 generalize w4.alloc (.cells (locV A B C D c d a b ⟨r,p,digsTo r 0⟩).toArray 136)=w5 at *
 have k2:=Ext.cell_ hx5 k2
 have HB5:=Lib.hid hb5
 have HX5:=Lib.hid hx5
 have hbg:br0 < w4.heap.size:=B4.out.lt
 clear hb5 hx5 HE1 HE2
 generalize hg:w4.heap.size=g at *
 have HG:=Lib.hid hg
 clear hg
 go_wp2_with fail
 go_loopw [7,31] (fun _ i wr=>∃ k:Nat,k≤10∧i=.int .i64 k∧Box wr g 136 (locV A B C D c d a b ⟨r,p,digsTo r k⟩)∧Ext w4 wr∧wr.cell? ⟨br0,2,none⟩=some (.string ⟨r.system.toArray⟩)) (fun _ i _=>10 - (intOf i).toNat)
 case atStart=>exact ⟨0,by omega,rfl,HB5.out,HX5.out,k2⟩
 case round =>
  obtain ⟨k,hk,rfl,hbx,hxr,k2⟩:=hrel
  by_cases hlt:k < 10
  ·have i1:(k:Int) < 10:=by omega
   have i2:(0:Int)≤(k:Int):=by omega
   have HBX:=Lib.hid hbx
   have HSET:=Lib.hid (digsTo_succ r hlt)
   have HDL:=Lib.hid (digsTo_len r hk)
   have HD:Hid (∀ W,Calls Tryz.prog 66 #[.string ⟨r.system.toArray⟩,.int .i64 (k:Int)] W fun e w'=>e=.returned (.tuple #[.string ⟨(digB ⟨r.system.toArray⟩ (k:Int)).toArray⟩,.int .i64 (digE ⟨r.system.toArray⟩ (k:Int))])∧Ext W w'):=Lib.hid fun W=>sys_digit _ _ W
   have HGE:Hid (w4.heap.size≤g):=Lib.hid (by rw [HG.out];exact Nat.le_refl _)
   have hne:br0 ≠ g:=by omega
   have HNE:=Lib.hid hne
   have HCELL:Hid ((locV A B C D c d a b ⟨r,p,digsTo r k⟩)[17+k]? = some (.string ⟨#[]⟩)):=Lib.hid (by
    rw [loc_digit,List.getElem?_map]
    show ((digsTo r k)[k]?).map sV=_
    unfold digsTo
    rw [List.getElem?_append_right (by simp [digs_len];omega),List.getElem?_replicate]
    have hl:((digs r).take k).length=k:=by simp [digs_len];omega
    rw [hl,Nat.sub_self,if_pos (by omega)];rfl)
   clear hbx
   go_upto_region 10 with fail
   go_region_held3 (fun W=>Ext w4 W∧W.cell? ⟨br0,2,none⟩=some (.string ⟨r.system.toArray⟩))
    (first
     | exact ⟨Ext.drew_ hxr,k2⟩
     | exact ⟨hE6,k26⟩
     | exact ⟨Ext.setCell_ hE6 HGE.out _ _,(World.cell?_of_block (heap_setCell_other w6 _ br0 _ HNE.out)).trans k26⟩)
    (first | (go_at_call 66;with_reducible refine (HD.out _).mono ?_;rintro e w6 ⟨rfl,hx6⟩;have hE6:=(Ext.drew_ hxr).trans hx6;have k26:=Ext.cell_ ((Ext.drew_ (Ext.refl wr)).trans hx6) k2;have hb6:=HBX.out.ext ((Ext.drew_ (Ext.refl wr)).trans hx6);have c6:=hb6.cell HCELL.out;have f6:=hb6.frozen (17+k)))
   all_goals go_wp2_with fail
   all_goals go_roundw
   all_goals first
    | (
      refine ⟨k+1,by omega,by go_num,?_,Ext.setCell_ hE6 HGE.out _ _,(World.cell?_of_block (heap_setCell_other w6 _ br0 _ HNE.out)).trans k26⟩
      have hs:=hb6.setCell (17+k) (sV (digB ⟨r.system.toArray⟩ (k:Int)))
      rw [locV_set,HSET.out] at hs
      exact hs)
    | (simp [intOf];omega)
  ·have e:k=10:=by omega
   subst e
   have hloc:LocR wr g A B C D c d a b ⟨r,p,digs r⟩:=⟨by rw [← digsTo_ten];exact hbx,HPT4.out.ext hxr⟩
   have HLC:=Lib.hid hloc
   have HXW:=Lib.hid ((HX1.out.trans HX4.out).trans hxr)
   have HTR:=Lib.hid (hT.ext HXW.out)
   clear hbx hloc k2 HB5 B4 HX5 hxr HPT4
   generalize hl:(⟨r,p,digs r⟩:Loc)=l at *
   have HLL:=Lib.hid hl
   clear hl
   go_wp2_with fail
   refine (rules_ g A B C D c d a b l _ HLC.out HTR.out).mono ?_
   rintro e w8 ⟨E,bl,br,u5,u6,u7,u8,u12,rfl,hr,hE,⟨bs1,bk1,rfl,hs1,hk1⟩,⟨bs2,bk2,rfl,hs2,hk2⟩,⟨bo1,rfl,ho1⟩,⟨bo2,rfl,ho2⟩,⟨bo3,rfl,ho3⟩,hx8⟩
   have HX8:=Lib.hid (HXW.out.trans hx8)
   have HRR:=Lib.hid hr
   have HLCC:=HLC
   have HX88:=Lib.hid hx8
   clear hx8 HLC HTR
   have HMM:=Lib.hid M
   clear M
   obtain ⟨e,o,rfl,_⟩:=hE.at_ (k:=0) (by simp [rulesV,wheres,fnsV,entV])
   have HEE:=Lib.hid hE
   clear hE
   go_wp2_with fail
   go_loopw [50] (fun i wr=>∃ k:Nat,k≤13∧i=.int .i64 k∧Ext w8 wr) (fun i _=>13 - (intOf i).toNat)
   case atStart=>exact ⟨0,by omega,rfl,Ext.refl _⟩
   case round =>
    obtain ⟨k,hk,rfl,hxr⟩:=hrel
    by_cases hk13:k < 13
    ·have hER:=HEE.out.below hxr (Nat.le_refl _)
     rcases (by omega:k=0∨k=1∨k=2∨k=3∨k=4∨k=5∨k=6∨k=7∨k=8∨k=9∨k=10∨k=11∨k=12) with rfl | rfl | rfl | rfl | rfl | rfl | rfl | rfl | rfl | rfl | rfl | rfl | rfl
     ·have hrg:wr.rangeAt e (o+0) [.string ⟨#[112,97,116,116,101,114,110]⟩,.int .i64 5,.func (.func 129) #[] #[.pointer (some ⟨bl,0,none⟩)]]:=ent_range (k:=0) (x:=(([112,97,116,116,101,114,110],5),.func (.func 129) #[] #[.pointer (some ⟨bl,0,none⟩)])) hER rfl
      have HRG:=Lib.hid hrg
      have HC:Hid (∀ W,Ext w8 W→Calls Tryz.prog 129 #[.pointer (some ⟨bl,0,none⟩)] W fun e w'=>e=.returned (.bool false)∧Ext W w'):=Lib.hid fun W hW=>by
       have hr:=HRR.out
       have M:=HMM.out
       exact rule3 g bl br A B C D c d a b l W (hr.ext hW) M
      have hal:Ext wr (wr.alloc (.cells ([.string ⟨#[112,97,116,116,101,114,110]⟩,.int .i64 5,.func (.func 129) #[] #[.pointer (some ⟨bl,0,none⟩)]]:List Value).toArray 142)):=Ext.alloc_ (Ext.refl _) _
      have HAL:=Lib.hid (hxr.trans hal)
      have c2:=(Box.new wr 142 [.string ⟨#[112,97,116,116,101,114,110]⟩,.int .i64 5,.func (.func 129) #[] #[.pointer (some ⟨bl,0,none⟩)]]).cell (j:=2) rfl
      clear hrg hER hal hs1 hk1 hs2 hk2 ho1 ho2 ho3
      go_wp2_with (first
       | (refine wpList_load_mid rfl 142 (.tmp 52) rfl e (o+0) rfl [.string ⟨#[112,97,116,116,101,114,110]⟩,.int .i64 5,.func (.func 129) #[] #[.pointer (some ⟨bl,0,none⟩)]] _ HRG.out Tryz.underlying142 rfl infoEnt ?_)
       | (refine wpList_store_fresh rfl 142 (.tmp 9) (.tmp 53) rfl ([.string ⟨#[112,97,116,116,101,114,110]⟩,.int .i64 5,.func (.func 129) #[] #[.pointer (some ⟨bl,0,none⟩)]]:List Value).toArray 142 _ rfl rfl infoEnt rfl (by simp [Value.oneCell']) ?_)
       | (go_at_call 129;with_reducible refine (HC.out _ HAL.out).mono ?_;rintro e9 w9 ⟨rfl,hx9⟩))
      exact ⟨⟨1,by omega,by go_num,HAL.out.trans hx9⟩,by simp [intOf]⟩
     ·have hrg:wr.rangeAt e (o+3) [.string ⟨#[115,121,115,116,101,109]⟩,.int .i64 7,.func (.func 130) #[] #[.pointer (some ⟨br,0,none⟩)]]:=ent_range (k:=1) (x:=(([115,121,115,116,101,109],7),.func (.func 130) #[] #[.pointer (some ⟨br,0,none⟩)])) hER rfl
      have HRG:=Lib.hid hrg
      have HC:Hid (∀ W,Ext w8 W→Calls Tryz.prog 130 #[.pointer (some ⟨br,0,none⟩)] W fun e w'=>e=.returned (.bool false)∧Ext W w'):=Lib.hid fun W hW=>by
       have hr:=HRR.out
       have M:=HMM.out
       exact rule4 g bl br A B C D c d a b l W (hr.ext hW) M
      have hal:Ext wr (wr.alloc (.cells ([.string ⟨#[115,121,115,116,101,109]⟩,.int .i64 7,.func (.func 130) #[] #[.pointer (some ⟨br,0,none⟩)]]:List Value).toArray 142)):=Ext.alloc_ (Ext.refl _) _
      have HAL:=Lib.hid (hxr.trans hal)
      have c2:=(Box.new wr 142 [.string ⟨#[115,121,115,116,101,109]⟩,.int .i64 7,.func (.func 130) #[] #[.pointer (some ⟨br,0,none⟩)]]).cell (j:=2) rfl
      clear hrg hER hal hs1 hk1 hs2 hk2 ho1 ho2 ho3
      go_wp2_with (first
       | (refine wpList_load_mid rfl 142 (.tmp 52) rfl e (o+3) rfl [.string ⟨#[115,121,115,116,101,109]⟩,.int .i64 7,.func (.func 130) #[] #[.pointer (some ⟨br,0,none⟩)]] _ HRG.out Tryz.underlying142 rfl infoEnt ?_)
       | (refine wpList_store_fresh rfl 142 (.tmp 9) (.tmp 53) rfl ([.string ⟨#[115,121,115,116,101,109]⟩,.int .i64 7,.func (.func 130) #[] #[.pointer (some ⟨br,0,none⟩)]]:List Value).toArray 142 _ rfl rfl infoEnt rfl (by simp [Value.oneCell']) ?_)
       | (go_at_call 130;with_reducible refine (HC.out _ HAL.out).mono ?_;rintro e9 w9 ⟨rfl,hx9⟩))
      exact ⟨⟨2,by omega,by go_num,HAL.out.trans hx9⟩,by simp [intOf]⟩
     ·have hrg:wr.rangeAt e (o+6) [.string ⟨#[100,101,99,105,109,97,108]⟩,.int .i64 2,.func (.func 133) #[] #[.pointer (some ⟨br,0,none⟩)]]:=ent_range (k:=2) (x:=(([100,101,99,105,109,97,108],2),.func (.func 133) #[] #[.pointer (some ⟨br,0,none⟩)])) hER rfl
      have HRG:=Lib.hid hrg
      have HC:Hid (∀ W,Ext w8 W→Calls Tryz.prog 133 #[.pointer (some ⟨br,0,none⟩)] W fun e w'=>e=.returned (.bool false)∧Ext W w'):=Lib.hid fun W hW=>by
       have hr:=HRR.out
       have M:=HMM.out
       exact rule5 g bl br A B C D c d a b l W (hr.ext hW) M
      have hal:Ext wr (wr.alloc (.cells ([.string ⟨#[100,101,99,105,109,97,108]⟩,.int .i64 2,.func (.func 133) #[] #[.pointer (some ⟨br,0,none⟩)]]:List Value).toArray 142)):=Ext.alloc_ (Ext.refl _) _
      have HAL:=Lib.hid (hxr.trans hal)
      have c2:=(Box.new wr 142 [.string ⟨#[100,101,99,105,109,97,108]⟩,.int .i64 2,.func (.func 133) #[] #[.pointer (some ⟨br,0,none⟩)]]).cell (j:=2) rfl
      clear hrg hER hal hs1 hk1 hs2 hk2 ho1 ho2 ho3
      go_wp2_with (first
       | (refine wpList_load_mid rfl 142 (.tmp 52) rfl e (o+6) rfl [.string ⟨#[100,101,99,105,109,97,108]⟩,.int .i64 2,.func (.func 133) #[] #[.pointer (some ⟨br,0,none⟩)]] _ HRG.out Tryz.underlying142 rfl infoEnt ?_)
       | (refine wpList_store_fresh rfl 142 (.tmp 9) (.tmp 53) rfl ([.string ⟨#[100,101,99,105,109,97,108]⟩,.int .i64 2,.func (.func 133) #[] #[.pointer (some ⟨br,0,none⟩)]]:List Value).toArray 142 _ rfl rfl infoEnt rfl (by simp [Value.oneCell']) ?_)
       | (go_at_call 133;with_reducible refine (HC.out _ HAL.out).mono ?_;rintro e9 w9 ⟨rfl,hx9⟩))
      exact ⟨⟨3,by omega,by go_num,HAL.out.trans hx9⟩,by simp [intOf]⟩
     ·have hrg:wr.rangeAt e (o+9) [.string ⟨#[103,114,111,117,112]⟩,.int .i64 2,.func (.func 135) #[] #[.pointer (some ⟨bl,0,none⟩),.pointer (some ⟨br,0,none⟩)]]:=ent_range (k:=3) (x:=(([103,114,111,117,112],2),.func (.func 135) #[] #[.pointer (some ⟨bl,0,none⟩),.pointer (some ⟨br,0,none⟩)])) hER rfl
      have HRG:=Lib.hid hrg
      have HC:Hid (∀ W,Ext w8 W→Calls Tryz.prog 135 #[.pointer (some ⟨bl,0,none⟩),.pointer (some ⟨br,0,none⟩)] W fun e w'=>e=.returned (.bool false)∧Ext W w'):=Lib.hid fun W hW=>by
       have hr:=HRR.out
       have M:=HMM.out
       exact rule6 g bl br A B C D c d a b l W (hr.ext hW) M
      have hal:Ext wr (wr.alloc (.cells ([.string ⟨#[103,114,111,117,112]⟩,.int .i64 2,.func (.func 135) #[] #[.pointer (some ⟨bl,0,none⟩),.pointer (some ⟨br,0,none⟩)]]:List Value).toArray 142)):=Ext.alloc_ (Ext.refl _) _
      have HAL:=Lib.hid (hxr.trans hal)
      have c2:=(Box.new wr 142 [.string ⟨#[103,114,111,117,112]⟩,.int .i64 2,.func (.func 135) #[] #[.pointer (some ⟨bl,0,none⟩),.pointer (some ⟨br,0,none⟩)]]).cell (j:=2) rfl
      clear hrg hER hal hs1 hk1 hs2 hk2 ho1 ho2 ho3
      go_wp2_with (first
       | (refine wpList_load_mid rfl 142 (.tmp 52) rfl e (o+9) rfl [.string ⟨#[103,114,111,117,112]⟩,.int .i64 2,.func (.func 135) #[] #[.pointer (some ⟨bl,0,none⟩),.pointer (some ⟨br,0,none⟩)]] _ HRG.out Tryz.underlying142 rfl infoEnt ?_)
       | (refine wpList_store_fresh rfl 142 (.tmp 9) (.tmp 53) rfl ([.string ⟨#[103,114,111,117,112]⟩,.int .i64 2,.func (.func 135) #[] #[.pointer (some ⟨bl,0,none⟩),.pointer (some ⟨br,0,none⟩)]]:List Value).toArray 142 _ rfl rfl infoEnt rfl (by simp [Value.oneCell']) ?_)
       | (go_at_call 135;with_reducible refine (HC.out _ HAL.out).mono ?_;rintro e9 w9 ⟨rfl,hx9⟩))
      exact ⟨⟨4,by omega,by go_num,HAL.out.trans hx9⟩,by simp [intOf]⟩
     ·have hrg:wr.rangeAt e (o+12) [.string ⟨#[109,105,110,117,115]⟩,.int .i64 2,.func (.func 137) #[] #[.pointer (some ⟨br,0,none⟩)]]:=ent_range (k:=4) (x:=(([109,105,110,117,115],2),.func (.func 137) #[] #[.pointer (some ⟨br,0,none⟩)])) hER rfl
      have HRG:=Lib.hid hrg
      have HC:Hid (∀ W,Ext w8 W→Calls Tryz.prog 137 #[.pointer (some ⟨br,0,none⟩)] W fun e w'=>e=.returned (.bool false)∧Ext W w'):=Lib.hid fun W hW=>by
       have hr:=HRR.out
       have M:=HMM.out
       exact rule7 g bl br A B C D c d a b l W (hr.ext hW) M
      have hal:Ext wr (wr.alloc (.cells ([.string ⟨#[109,105,110,117,115]⟩,.int .i64 2,.func (.func 137) #[] #[.pointer (some ⟨br,0,none⟩)]]:List Value).toArray 142)):=Ext.alloc_ (Ext.refl _) _
      have HAL:=Lib.hid (hxr.trans hal)
      have c2:=(Box.new wr 142 [.string ⟨#[109,105,110,117,115]⟩,.int .i64 2,.func (.func 137) #[] #[.pointer (some ⟨br,0,none⟩)]]).cell (j:=2) rfl
      clear hrg hER hal hs1 hk1 hs2 hk2 ho1 ho2 ho3
      go_wp2_with (first
       | (refine wpList_load_mid rfl 142 (.tmp 52) rfl e (o+12) rfl [.string ⟨#[109,105,110,117,115]⟩,.int .i64 2,.func (.func 137) #[] #[.pointer (some ⟨br,0,none⟩)]] _ HRG.out Tryz.underlying142 rfl infoEnt ?_)
       | (refine wpList_store_fresh rfl 142 (.tmp 9) (.tmp 53) rfl ([.string ⟨#[109,105,110,117,115]⟩,.int .i64 2,.func (.func 137) #[] #[.pointer (some ⟨br,0,none⟩)]]:List Value).toArray 142 _ rfl rfl infoEnt rfl (by simp [Value.oneCell']) ?_)
       | (go_at_call 137;with_reducible refine (HC.out _ HAL.out).mono ?_;rintro e9 w9 ⟨rfl,hx9⟩))
      exact ⟨⟨5,by omega,by go_num,HAL.out.trans hx9⟩,by simp [intOf]⟩
     ·have hrg:wr.rangeAt e (o+15) [.string ⟨#[112,101,114,99,101,110,116]⟩,.int .i64 2,.func (.func 122) #[] #[.pointer (some ⟨bs1,0,none⟩),.pointer (some ⟨bl,0,none⟩),.pointer (some ⟨bk1,0,none⟩)]]:=ent_range (k:=5) (x:=(([112,101,114,99,101,110,116],2),.func (.func 122) #[] #[.pointer (some ⟨bs1,0,none⟩),.pointer (some ⟨bl,0,none⟩),.pointer (some ⟨bk1,0,none⟩)])) hER rfl
      have HRG:=Lib.hid hrg
      have HC:Hid (∀ W,Ext w8 W→Calls Tryz.prog 122 #[.pointer (some ⟨bs1,0,none⟩),.pointer (some ⟨bl,0,none⟩),.pointer (some ⟨bk1,0,none⟩)] W fun e w'=>e=.returned (.bool false)∧Ext W w'):=Lib.hid fun W hW=>by
       have hr:=HRR.out
       have M:=HMM.out
       exact spare1 g bl br bs1 bk1 A B C D c d a b l l.r.percent 2 W (hr.ext hW) M.b M.b.per (Ext.cell_ hW hs1) (Ext.cell_ hW hk1) M.per
      have hal:Ext wr (wr.alloc (.cells ([.string ⟨#[112,101,114,99,101,110,116]⟩,.int .i64 2,.func (.func 122) #[] #[.pointer (some ⟨bs1,0,none⟩),.pointer (some ⟨bl,0,none⟩),.pointer (some ⟨bk1,0,none⟩)]]:List Value).toArray 142)):=Ext.alloc_ (Ext.refl _) _
      have HAL:=Lib.hid (hxr.trans hal)
      have c2:=(Box.new wr 142 [.string ⟨#[112,101,114,99,101,110,116]⟩,.int .i64 2,.func (.func 122) #[] #[.pointer (some ⟨bs1,0,none⟩),.pointer (some ⟨bl,0,none⟩),.pointer (some ⟨bk1,0,none⟩)]]).cell (j:=2) rfl
      clear hrg hER hal hs1 hk1 hs2 hk2 ho1 ho2 ho3
      go_wp2_with (first
       | (refine wpList_load_mid rfl 142 (.tmp 52) rfl e (o+15) rfl [.string ⟨#[112,101,114,99,101,110,116]⟩,.int .i64 2,.func (.func 122) #[] #[.pointer (some ⟨bs1,0,none⟩),.pointer (some ⟨bl,0,none⟩),.pointer (some ⟨bk1,0,none⟩)]] _ HRG.out Tryz.underlying142 rfl infoEnt ?_)
       | (refine wpList_store_fresh rfl 142 (.tmp 9) (.tmp 53) rfl ([.string ⟨#[112,101,114,99,101,110,116]⟩,.int .i64 2,.func (.func 122) #[] #[.pointer (some ⟨bs1,0,none⟩),.pointer (some ⟨bl,0,none⟩),.pointer (some ⟨bk1,0,none⟩)]]:List Value).toArray 142 _ rfl rfl infoEnt rfl (by simp [Value.oneCell']) ?_)
       | (go_at_call 122;with_reducible refine (HC.out _ HAL.out).mono ?_;rintro e9 w9 ⟨rfl,hx9⟩))
      exact ⟨⟨6,by omega,by go_num,HAL.out.trans hx9⟩,by simp [intOf]⟩
     ·have hrg:wr.rangeAt e (o+18) [.string ⟨#[99,117,114,114,101,110,99,121]⟩,.int .i64 2,.func (.func 122) #[] #[.pointer (some ⟨bs2,0,none⟩),.pointer (some ⟨bl,0,none⟩),.pointer (some ⟨bk2,0,none⟩)]]:=ent_range (k:=6) (x:=(([99,117,114,114,101,110,99,121],2),.func (.func 122) #[] #[.pointer (some ⟨bs2,0,none⟩),.pointer (some ⟨bl,0,none⟩),.pointer (some ⟨bk2,0,none⟩)])) hER rfl
      have HRG:=Lib.hid hrg
      have HC:Hid (∀ W,Ext w8 W→Calls Tryz.prog 122 #[.pointer (some ⟨bs2,0,none⟩),.pointer (some ⟨bl,0,none⟩),.pointer (some ⟨bk2,0,none⟩)] W fun e w'=>e=.returned (.bool false)∧Ext W w'):=Lib.hid fun W hW=>by
       have hr:=HRR.out
       have M:=HMM.out
       exact spare1 g bl br bs2 bk2 A B C D c d a b l l.r.currency 1 W (hr.ext hW) M.b M.b.cur (Ext.cell_ hW hs2) (Ext.cell_ hW hk2) M.cur
      have hal:Ext wr (wr.alloc (.cells ([.string ⟨#[99,117,114,114,101,110,99,121]⟩,.int .i64 2,.func (.func 122) #[] #[.pointer (some ⟨bs2,0,none⟩),.pointer (some ⟨bl,0,none⟩),.pointer (some ⟨bk2,0,none⟩)]]:List Value).toArray 142)):=Ext.alloc_ (Ext.refl _) _
      have HAL:=Lib.hid (hxr.trans hal)
      have c2:=(Box.new wr 142 [.string ⟨#[99,117,114,114,101,110,99,121]⟩,.int .i64 2,.func (.func 122) #[] #[.pointer (some ⟨bs2,0,none⟩),.pointer (some ⟨bl,0,none⟩),.pointer (some ⟨bk2,0,none⟩)]]).cell (j:=2) rfl
      clear hrg hER hal hs1 hk1 hs2 hk2 ho1 ho2 ho3
      go_wp2_with (first
       | (refine wpList_load_mid rfl 142 (.tmp 52) rfl e (o+18) rfl [.string ⟨#[99,117,114,114,101,110,99,121]⟩,.int .i64 2,.func (.func 122) #[] #[.pointer (some ⟨bs2,0,none⟩),.pointer (some ⟨bl,0,none⟩),.pointer (some ⟨bk2,0,none⟩)]] _ HRG.out Tryz.underlying142 rfl infoEnt ?_)
       | (refine wpList_store_fresh rfl 142 (.tmp 9) (.tmp 53) rfl ([.string ⟨#[99,117,114,114,101,110,99,121]⟩,.int .i64 2,.func (.func 122) #[] #[.pointer (some ⟨bs2,0,none⟩),.pointer (some ⟨bl,0,none⟩),.pointer (some ⟨bk2,0,none⟩)]]:List Value).toArray 142 _ rfl rfl infoEnt rfl (by simp [Value.oneCell']) ?_)
       | (go_at_call 122;with_reducible refine (HC.out _ HAL.out).mono ?_;rintro e9 w9 ⟨rfl,hx9⟩))
      exact ⟨⟨7,by omega,by go_num,HAL.out.trans hx9⟩,by simp [intOf]⟩
     ·have hrg:wr.rangeAt e (o+21) [.string ⟨#[97,102,102,105,120]⟩,.int .i64 2,.func (.func 126) #[] #[.pointer (some ⟨bl,0,none⟩),.pointer (some ⟨bo1,0,none⟩)]]:=ent_range (k:=7) (x:=(([97,102,102,105,120],2),.func (.func 126) #[] #[.pointer (some ⟨bl,0,none⟩),.pointer (some ⟨bo1,0,none⟩)])) hER rfl
      have HRG:=Lib.hid hrg
      have HC:Hid (∀ W,Ext w8 W→Calls Tryz.prog 126 #[.pointer (some ⟨bl,0,none⟩),.pointer (some ⟨bo1,0,none⟩)] W fun e w'=>e=.returned (.bool false)∧Ext W w'):=Lib.hid fun W hW=>by
       have hr:=HRR.out
       have M:=HMM.out
       exact some8 g bl br bo1 A B C D c d a b l W (hr.ext hW) M (Ext.cell_ hW ho1)
      have hal:Ext wr (wr.alloc (.cells ([.string ⟨#[97,102,102,105,120]⟩,.int .i64 2,.func (.func 126) #[] #[.pointer (some ⟨bl,0,none⟩),.pointer (some ⟨bo1,0,none⟩)]]:List Value).toArray 142)):=Ext.alloc_ (Ext.refl _) _
      have HAL:=Lib.hid (hxr.trans hal)
      have c2:=(Box.new wr 142 [.string ⟨#[97,102,102,105,120]⟩,.int .i64 2,.func (.func 126) #[] #[.pointer (some ⟨bl,0,none⟩),.pointer (some ⟨bo1,0,none⟩)]]).cell (j:=2) rfl
      clear hrg hER hal hs1 hk1 hs2 hk2 ho1 ho2 ho3
      go_wp2_with (first
       | (refine wpList_load_mid rfl 142 (.tmp 52) rfl e (o+21) rfl [.string ⟨#[97,102,102,105,120]⟩,.int .i64 2,.func (.func 126) #[] #[.pointer (some ⟨bl,0,none⟩),.pointer (some ⟨bo1,0,none⟩)]] _ HRG.out Tryz.underlying142 rfl infoEnt ?_)
       | (refine wpList_store_fresh rfl 142 (.tmp 9) (.tmp 53) rfl ([.string ⟨#[97,102,102,105,120]⟩,.int .i64 2,.func (.func 126) #[] #[.pointer (some ⟨bl,0,none⟩),.pointer (some ⟨bo1,0,none⟩)]]:List Value).toArray 142 _ rfl rfl infoEnt rfl (by simp [Value.oneCell']) ?_)
       | (go_at_call 126;with_reducible refine (HC.out _ HAL.out).mono ?_;rintro e9 w9 ⟨rfl,hx9⟩))
      exact ⟨⟨8,by omega,by go_num,HAL.out.trans hx9⟩,by simp [intOf]⟩
     ·have hrg:wr.rangeAt e (o+24) [.string ⟨#[97,102,102,105,120]⟩,.int .i64 3,.func (.func 126) #[] #[.pointer (some ⟨bl,0,none⟩),.pointer (some ⟨bo2,0,none⟩)]]:=ent_range (k:=8) (x:=(([97,102,102,105,120],3),.func (.func 126) #[] #[.pointer (some ⟨bl,0,none⟩),.pointer (some ⟨bo2,0,none⟩)])) hER rfl
      have HRG:=Lib.hid hrg
      have HC:Hid (∀ W,Ext w8 W→Calls Tryz.prog 126 #[.pointer (some ⟨bl,0,none⟩),.pointer (some ⟨bo2,0,none⟩)] W fun e w'=>e=.returned (.bool false)∧Ext W w'):=Lib.hid fun W hW=>by
       have hr:=HRR.out
       have M:=HMM.out
       exact some9 g bl br bo2 A B C D c d a b l W (hr.ext hW) M (Ext.cell_ hW ho2)
      have hal:Ext wr (wr.alloc (.cells ([.string ⟨#[97,102,102,105,120]⟩,.int .i64 3,.func (.func 126) #[] #[.pointer (some ⟨bl,0,none⟩),.pointer (some ⟨bo2,0,none⟩)]]:List Value).toArray 142)):=Ext.alloc_ (Ext.refl _) _
      have HAL:=Lib.hid (hxr.trans hal)
      have c2:=(Box.new wr 142 [.string ⟨#[97,102,102,105,120]⟩,.int .i64 3,.func (.func 126) #[] #[.pointer (some ⟨bl,0,none⟩),.pointer (some ⟨bo2,0,none⟩)]]).cell (j:=2) rfl
      clear hrg hER hal hs1 hk1 hs2 hk2 ho1 ho2 ho3
      go_wp2_with (first
       | (refine wpList_load_mid rfl 142 (.tmp 52) rfl e (o+24) rfl [.string ⟨#[97,102,102,105,120]⟩,.int .i64 3,.func (.func 126) #[] #[.pointer (some ⟨bl,0,none⟩),.pointer (some ⟨bo2,0,none⟩)]] _ HRG.out Tryz.underlying142 rfl infoEnt ?_)
       | (refine wpList_store_fresh rfl 142 (.tmp 9) (.tmp 53) rfl ([.string ⟨#[97,102,102,105,120]⟩,.int .i64 3,.func (.func 126) #[] #[.pointer (some ⟨bl,0,none⟩),.pointer (some ⟨bo2,0,none⟩)]]:List Value).toArray 142 _ rfl rfl infoEnt rfl (by simp [Value.oneCell']) ?_)
       | (go_at_call 126;with_reducible refine (HC.out _ HAL.out).mono ?_;rintro e9 w9 ⟨rfl,hx9⟩))
      exact ⟨⟨9,by omega,by go_num,HAL.out.trans hx9⟩,by simp [intOf]⟩
     ·have hrg:wr.rangeAt e (o+27) [.string ⟨#[100,101,99,105,109,97,108]⟩,.int .i64 6,.func (.func 144) #[] #[.pointer (some ⟨bl,0,none⟩),.pointer (some ⟨br,0,none⟩)]]:=ent_range (k:=9) (x:=(([100,101,99,105,109,97,108],6),.func (.func 144) #[] #[.pointer (some ⟨bl,0,none⟩),.pointer (some ⟨br,0,none⟩)])) hER rfl
      have HRG:=Lib.hid hrg
      have HC:Hid (∀ W,Ext w8 W→Calls Tryz.prog 144 #[.pointer (some ⟨bl,0,none⟩),.pointer (some ⟨br,0,none⟩)] W fun e w'=>e=.returned (.bool false)∧Ext W w'):=Lib.hid fun W hW=>by
       have hr:=HRR.out
       have M:=HMM.out
       exact rule10 g bl br A B C D c d a b l W (hr.ext hW) M
      have hal:Ext wr (wr.alloc (.cells ([.string ⟨#[100,101,99,105,109,97,108]⟩,.int .i64 6,.func (.func 144) #[] #[.pointer (some ⟨bl,0,none⟩),.pointer (some ⟨br,0,none⟩)]]:List Value).toArray 142)):=Ext.alloc_ (Ext.refl _) _
      have HAL:=Lib.hid (hxr.trans hal)
      have c2:=(Box.new wr 142 [.string ⟨#[100,101,99,105,109,97,108]⟩,.int .i64 6,.func (.func 144) #[] #[.pointer (some ⟨bl,0,none⟩),.pointer (some ⟨br,0,none⟩)]]).cell (j:=2) rfl
      clear hrg hER hal hs1 hk1 hs2 hk2 ho1 ho2 ho3
      go_wp2_with (first
       | (refine wpList_load_mid rfl 142 (.tmp 52) rfl e (o+27) rfl [.string ⟨#[100,101,99,105,109,97,108]⟩,.int .i64 6,.func (.func 144) #[] #[.pointer (some ⟨bl,0,none⟩),.pointer (some ⟨br,0,none⟩)]] _ HRG.out Tryz.underlying142 rfl infoEnt ?_)
       | (refine wpList_store_fresh rfl 142 (.tmp 9) (.tmp 53) rfl ([.string ⟨#[100,101,99,105,109,97,108]⟩,.int .i64 6,.func (.func 144) #[] #[.pointer (some ⟨bl,0,none⟩),.pointer (some ⟨br,0,none⟩)]]:List Value).toArray 142 _ rfl rfl infoEnt rfl (by simp [Value.oneCell']) ?_)
       | (go_at_call 144;with_reducible refine (HC.out _ HAL.out).mono ?_;rintro e9 w9 ⟨rfl,hx9⟩))
      exact ⟨⟨10,by omega,by go_num,HAL.out.trans hx9⟩,by simp [intOf]⟩
     ·have hrg:wr.rangeAt e (o+30) [.string ⟨#[103,114,111,117,112]⟩,.int .i64 6,.func (.func 146) #[] #[.pointer (some ⟨bl,0,none⟩),.pointer (some ⟨br,0,none⟩)]]:=ent_range (k:=10) (x:=(([103,114,111,117,112],6),.func (.func 146) #[] #[.pointer (some ⟨bl,0,none⟩),.pointer (some ⟨br,0,none⟩)])) hER rfl
      have HRG:=Lib.hid hrg
      have HC:Hid (∀ W,Ext w8 W→Calls Tryz.prog 146 #[.pointer (some ⟨bl,0,none⟩),.pointer (some ⟨br,0,none⟩)] W fun e w'=>e=.returned (.bool false)∧Ext W w'):=Lib.hid fun W hW=>by
       have hr:=HRR.out
       have M:=HMM.out
       exact rule11 g bl br A B C D c d a b l W (hr.ext hW) M
      have hal:Ext wr (wr.alloc (.cells ([.string ⟨#[103,114,111,117,112]⟩,.int .i64 6,.func (.func 146) #[] #[.pointer (some ⟨bl,0,none⟩),.pointer (some ⟨br,0,none⟩)]]:List Value).toArray 142)):=Ext.alloc_ (Ext.refl _) _
      have HAL:=Lib.hid (hxr.trans hal)
      have c2:=(Box.new wr 142 [.string ⟨#[103,114,111,117,112]⟩,.int .i64 6,.func (.func 146) #[] #[.pointer (some ⟨bl,0,none⟩),.pointer (some ⟨br,0,none⟩)]]).cell (j:=2) rfl
      clear hrg hER hal hs1 hk1 hs2 hk2 ho1 ho2 ho3
      go_wp2_with (first
       | (refine wpList_load_mid rfl 142 (.tmp 52) rfl e (o+30) rfl [.string ⟨#[103,114,111,117,112]⟩,.int .i64 6,.func (.func 146) #[] #[.pointer (some ⟨bl,0,none⟩),.pointer (some ⟨br,0,none⟩)]] _ HRG.out Tryz.underlying142 rfl infoEnt ?_)
       | (refine wpList_store_fresh rfl 142 (.tmp 9) (.tmp 53) rfl ([.string ⟨#[103,114,111,117,112]⟩,.int .i64 6,.func (.func 146) #[] #[.pointer (some ⟨bl,0,none⟩),.pointer (some ⟨br,0,none⟩)]]:List Value).toArray 142 _ rfl rfl infoEnt rfl (by simp [Value.oneCell']) ?_)
       | (go_at_call 146;with_reducible refine (HC.out _ HAL.out).mono ?_;rintro e9 w9 ⟨rfl,hx9⟩))
      exact ⟨⟨11,by omega,by go_num,HAL.out.trans hx9⟩,by simp [intOf]⟩
     ·have hrg:wr.rangeAt e (o+33) [.string ⟨#[109,105,110,117,115]⟩,.int .i64 6,.func (.func 147) #[] #[.pointer (some ⟨bl,0,none⟩),.pointer (some ⟨br,0,none⟩)]]:=ent_range (k:=11) (x:=(([109,105,110,117,115],6),.func (.func 147) #[] #[.pointer (some ⟨bl,0,none⟩),.pointer (some ⟨br,0,none⟩)])) hER rfl
      have HRG:=Lib.hid hrg
      have HC:Hid (∀ W,Ext w8 W→Calls Tryz.prog 147 #[.pointer (some ⟨bl,0,none⟩),.pointer (some ⟨br,0,none⟩)] W fun e w'=>e=.returned (.bool false)∧Ext W w'):=Lib.hid fun W hW=>by
       have hr:=HRR.out
       have M:=HMM.out
       exact rule12 g bl br A B C D c d a b l W (hr.ext hW) M
      have hal:Ext wr (wr.alloc (.cells ([.string ⟨#[109,105,110,117,115]⟩,.int .i64 6,.func (.func 147) #[] #[.pointer (some ⟨bl,0,none⟩),.pointer (some ⟨br,0,none⟩)]]:List Value).toArray 142)):=Ext.alloc_ (Ext.refl _) _
      have HAL:=Lib.hid (hxr.trans hal)
      have c2:=(Box.new wr 142 [.string ⟨#[109,105,110,117,115]⟩,.int .i64 6,.func (.func 147) #[] #[.pointer (some ⟨bl,0,none⟩),.pointer (some ⟨br,0,none⟩)]]).cell (j:=2) rfl
      clear hrg hER hal hs1 hk1 hs2 hk2 ho1 ho2 ho3
      go_wp2_with (first
       | (refine wpList_load_mid rfl 142 (.tmp 52) rfl e (o+33) rfl [.string ⟨#[109,105,110,117,115]⟩,.int .i64 6,.func (.func 147) #[] #[.pointer (some ⟨bl,0,none⟩),.pointer (some ⟨br,0,none⟩)]] _ HRG.out Tryz.underlying142 rfl infoEnt ?_)
       | (refine wpList_store_fresh rfl 142 (.tmp 9) (.tmp 53) rfl ([.string ⟨#[109,105,110,117,115]⟩,.int .i64 6,.func (.func 147) #[] #[.pointer (some ⟨bl,0,none⟩),.pointer (some ⟨br,0,none⟩)]]:List Value).toArray 142 _ rfl rfl infoEnt rfl (by simp [Value.oneCell']) ?_)
       | (go_at_call 147;with_reducible refine (HC.out _ HAL.out).mono ?_;rintro e9 w9 ⟨rfl,hx9⟩))
      exact ⟨⟨12,by omega,by go_num,HAL.out.trans hx9⟩,by simp [intOf]⟩
     ·have hrg:wr.rangeAt e (o+36) [.string ⟨#[97,102,102,105,120]⟩,.int .i64 6,.func (.func 126) #[] #[.pointer (some ⟨bl,0,none⟩),.pointer (some ⟨bo3,0,none⟩)]]:=ent_range (k:=12) (x:=(([97,102,102,105,120],6),.func (.func 126) #[] #[.pointer (some ⟨bl,0,none⟩),.pointer (some ⟨bo3,0,none⟩)])) hER rfl
      have HRG:=Lib.hid hrg
      have HC:Hid (∀ W,Ext w8 W→Calls Tryz.prog 126 #[.pointer (some ⟨bl,0,none⟩),.pointer (some ⟨bo3,0,none⟩)] W fun e w'=>e=.returned (.bool false)∧Ext W w'):=Lib.hid fun W hW=>by
       have hr:=HRR.out
       have M:=HMM.out
       exact some13 g bl br bo3 A B C D c d a b l W (hr.ext hW) M (Ext.cell_ hW ho3)
      have hal:Ext wr (wr.alloc (.cells ([.string ⟨#[97,102,102,105,120]⟩,.int .i64 6,.func (.func 126) #[] #[.pointer (some ⟨bl,0,none⟩),.pointer (some ⟨bo3,0,none⟩)]]:List Value).toArray 142)):=Ext.alloc_ (Ext.refl _) _
      have HAL:=Lib.hid (hxr.trans hal)
      have c2:=(Box.new wr 142 [.string ⟨#[97,102,102,105,120]⟩,.int .i64 6,.func (.func 126) #[] #[.pointer (some ⟨bl,0,none⟩),.pointer (some ⟨bo3,0,none⟩)]]).cell (j:=2) rfl
      clear hrg hER hal hs1 hk1 hs2 hk2 ho1 ho2 ho3
      go_wp2_with (first
       | (refine wpList_load_mid rfl 142 (.tmp 52) rfl e (o+36) rfl [.string ⟨#[97,102,102,105,120]⟩,.int .i64 6,.func (.func 126) #[] #[.pointer (some ⟨bl,0,none⟩),.pointer (some ⟨bo3,0,none⟩)]] _ HRG.out Tryz.underlying142 rfl infoEnt ?_)
       | (refine wpList_store_fresh rfl 142 (.tmp 9) (.tmp 53) rfl ([.string ⟨#[97,102,102,105,120]⟩,.int .i64 6,.func (.func 126) #[] #[.pointer (some ⟨bl,0,none⟩),.pointer (some ⟨bo3,0,none⟩)]]:List Value).toArray 142 _ rfl rfl infoEnt rfl (by simp [Value.oneCell']) ?_)
       | (go_at_call 126;with_reducible refine (HC.out _ HAL.out).mono ?_;rintro e9 w9 ⟨rfl,hx9⟩))
      exact ⟨⟨13,by omega,by go_num,HAL.out.trans hx9⟩,by simp [intOf]⟩
    ·have e13:k=13:=by omega
     subst e13
     go_wp2
     go_ret2
     exact ⟨g,A,B,C,D,c,d,a,b,rfl,by (rw [HLL.out];exact HLCC.out.ext (HX88.out.trans hxr)),HX8.out.trans hxr⟩
end Go.Proofs.YtcghgkagpkmpeaaGreatDoor.Loc
