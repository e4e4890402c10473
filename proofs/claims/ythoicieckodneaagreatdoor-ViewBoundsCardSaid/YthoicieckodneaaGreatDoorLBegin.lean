/- Walks: the document's locale of a law; a law's begin (item). -/
import Derived.Test.YthoicieckodneaaGreatDoorLKin
import Derived.Test.YthoicieckodneaaGreatDoorJForty
import Derived.Test.YthoicieckodneaaGreatDoorJLocE
import Derived.Deep.RegionHeld3
namespace Go.Proofs.YthoicieckodneaaGreatDoor.Loc
open Go.RowKit Utf All Small Strs Build EncC Pat Cls Dec Go.Proofs.YthoicieckodneaaGreatDoor.Sys
set_option linter.unusedVariables false
set_option linter.unusedSimpArgs false

theorem step_row {ops : Array Oper} {o : Oper} {a : Act} {w : World} {K : Act → World → Prop} {Q : Exit → Act → World → Prop} {X : Prop} (hgd : o.guard = none) (ty : TypeId) (x y : Operand) (ho : o.op = .store ty x y)
    (g : Nat) (cells : Array Value) (hx : a.eval x = .pointer (some ⟨g, 0, none⟩)) (hy : a.eval y = .agg cells)
    (t : TypeId) (old : Array Value) (hg : w.heap[g]? = some (.cells old t (0, 0))) (hi : (Tryz.prog.info? ty).map (·.size) = some cells.size)
    (hold : old.size = cells.size) (h1 : cells.all (·.oneCell') = true)
    (h : K (a.put o.dst undef) (w.setRow g cells)) : if Region.wanted o (yielded ops a.tmps) = true then o.wp Tryz.prog a w K Q else X := by
  have hw : Region.wanted o (yielded ops a.tmps) = true := by simp [Region.wanted, hgd]
  rw [if_pos hw]
  exact wp_store_row ty x y ho g cells hx hy t old hg hi hold h1 h
theorem box_ne {w : World} {g b : Nat} {T U : TypeId} {cs ds : List Value} (h1 : Box w g T cs) (h2 : Box w b U ds) (hT : T ≠ U) : g ≠ b := by
  intro e
  subst e
  unfold Box at h1 h2
  rw [h1] at h2
  injection h2 with h2
  injection h2 with _ h3 _
  exact hT h3
theorem range_setRow {w : World} {b o g : Nat} {cs : List Value} (h : w.rangeAt b o cs) (hne : b ≠ g) (ds : Array Value) : (w.setRow g ds).rangeAt b o cs := fun j v hv => (World.cell?_of_block (setRow_other w g b ds hne)).trans (h j v hv)
/-- what a law of any locale knows of it -/
def LocaleC (v0 v1 v2 v3 v4 v5 n : Int) (r : Rec) (p : Pt) : Prop := ∀ W, Calls Tryz.prog 48 #[.agg ([.int .i64 v0, .int .i64 v1, .int .i64 v2, .int .i64 v3, .int .i64 v4, .int .i64 v5] : List Value).toArray, .int .i64 n] W fun e w' => ∃ A B C D c d a b, e = .returned (.agg (refLV A B C D c d a b r p).toArray) ∧ PtR w' A B C D p ∧ CapR p c d a b ∧ Ext W w'
set_option maxHeartbeats 4000000 in
set_option maxRecDepth 100000 in
theorem locale_good (v0 v1 v2 v3 v4 v5 n : Int) (h0 : i64 v0) (h1 : i64 v1) (h2 : i64 v2) (h3 : i64 v3) (h4 : i64 v4) (h5 : i64 v5) (hn : i64 n) (hm : n.tmod 3 = 0) : ∃ r p, Kin r p ∧ LocaleC v0 v1 v2 v3 v4 v5 n r p := by
  obtain ⟨r, p, hk, hG⟩ : ∃ r p, Kin r p ∧ ∀ W, Calls Tryz.prog 76 #[.agg ([.int .i64 v0, .int .i64 v1, .int .i64 v2, .int .i64 v3, .int .i64 v4, .int .i64 v5] : List Value).toArray] W fun e w' => e = .returned (.agg (recV r).toArray) ∧ Ext W w' :=
    ⟨_, _, .inl ⟨v0, v1, v2, v3, v4, v5, rfl, rfl⟩, fun W => good_ v0 v1 v2 v3 v4 v5 W h0 h1 h2 h3 h4 h5⟩
  refine ⟨r, p, hk, fun w => ?_⟩
  have HGD := Lib.hid hG
  have HNW := Lib.hid (fun W => ref_new r p W hk.both)
  have b1 := (Box.new w 23 [.int .i64 v0, .int .i64 v1, .int .i64 v2, .int .i64 v3, .int .i64 v4, .int .i64 v5]).alloc (.cells zero17.toArray 34)
  have c1 := Box.new (w.alloc (.cells ([.int .i64 v0, .int .i64 v1, .int .i64 v2, .int .i64 v3, .int .i64 v4, .int .i64 v5] : List Value).toArray 23)) 34 zero17
  have hs1 : (w.alloc (.cells ([.int .i64 v0, .int .i64 v1, .int .i64 v2, .int .i64 v3, .int .i64 v4, .int .i64 v5] : List Value).toArray 23)).heap.size = w.heap.size + 1 := by simp
  rw [hs1] at c1
  have hx1 : Ext w ((w.alloc (.cells ([.int .i64 v0, .int .i64 v1, .int .i64 v2, .int .i64 v3, .int .i64 v4, .int .i64 v5] : List Value).toArray 23)).alloc (.cells zero17.toArray 34)) := Ext.alloc_ (Ext.alloc_ (Ext.refl w) _) _
  have HRG := Lib.hid b1.range
  have HC1 := Lib.hid c1
  have HX1 := Lib.hid hx1
  have hb : (n.tmod 3 == 0) = true := by simpa using hm
  clear hk hG b1 c1 hs1 hx1 hm h0 h1 h2 h3 h4 h5 hn
  go_enter Tryz.func48, Tryz.ntmps48
  go_upto_region 1 with fail
  change Code.wp _ _ _ _ ((w.alloc (.cells ([.int .i64 v0, .int .i64 v1, .int .i64 v2, .int .i64 v3, .int .i64 v4, .int .i64 v5] : List Value).toArray 23)).alloc (.cells zero17.toArray 34))
  generalize (w.alloc (.cells ([.int .i64 v0, .int .i64 v1, .int .i64 v2, .int .i64 v3, .int .i64 v4, .int .i64 v5] : List Value).toArray 23)).alloc (.cells zero17.toArray 34) = w1 at *
  go_wp2_with (first
    | (refine wpList_load_mid rfl 23 (.tmp 2) rfl w.heap.size 0 rfl [.int .i64 v0, .int .i64 v1, .int .i64 v2, .int .i64 v3, .int .i64 v4, .int .i64 v5] _ HRG.out Tryz.underlying23 rfl infoG ?_)
    | (go_at_call 76; refine (HGD.out _).mono ?_; rintro e w2 ⟨rfl, hx2⟩)
    | (go_at_call 75; refine (HNW.out _).mono ?_; rintro e w3 ⟨A, B, C, D, c, d, a, b, rfl, hpt, hcap, hx3⟩; have HC3 := Lib.hid (HC1.out.ext (hx2.trans hx3)))
    | (refine wpList_store_row rfl 34 (.tmp 4) (.tmp 10) rfl (w.heap.size + 1) (refLV A B C D c d a b r p).toArray rfl rfl _ _ HC3.out infoRL rfl (refL_one A B C D c d a b r p) ?_))
  have hb5 := HC3.out.set (refLV A B C D c d a b r p).toArray
  have hle : w.heap.size ≤ w.heap.size + 1 := Nat.le_succ _
  refine bodyPost_ret (v := .agg (refLV A B C D c d a b r p).toArray) (results_cell_row rfl _ _ (w.heap.size + 1) _ _ _ _ rfl hb5 Tryz.underlying34 rfl infoRL) rfl ⟨A, B, C, D, c, d, a, b, rfl, pt_setRow HC3.out hpt _, hcap, Ext.setRow (HX1.out.trans (hx2.trans hx3)) hle _⟩
set_option maxHeartbeats 4000000 in
set_option maxRecDepth 100000 in
theorem locale_forty (v0 v1 v2 v3 v4 v5 n : Int) (hn : i64 n) (hm : ¬ n.tmod 3 = 0) : ∃ r p, Kin r p ∧ LocaleC v0 v1 v2 v3 v4 v5 n r p := by
  have ha := aroundF_bd n 1048576 (by omega)
  have hq0 : 0 ≤ (aroundF n 1048576).tdiv 3 ∧ (aroundF n 1048576).tdiv 3 ≤ 1048576 := by
    rw [Int.tdiv_eq_ediv_of_nonneg ha.1]; omega
  have hkb := aroundF_bd ((aroundF n 1048576).tdiv 3) 40 (by omega)
  have hk : (aroundF ((aroundF n 1048576).tdiv 3) 40).toNat < 40 := by omega
  refine ⟨rec40 (aroundF ((aroundF n 1048576).tdiv 3) 40).toNat, pat40 (aroundF ((aroundF n 1048576).tdiv 3) 40).toNat, .inr ⟨_, hk, rfl, rfl⟩, fun w => ?_⟩
  have HONE : Hid (∀ W, Calls Tryz.prog 77 #[.int .i64 ((aroundF n 1048576).tdiv 3)] W fun e w' => e = .returned (.agg (recV (rec40 (aroundF ((aroundF n 1048576).tdiv 3) 40).toNat)).toArray) ∧ Ext W w') := Lib.hid fun W => by
    have h := Forty.ref_one ((aroundF n 1048576).tdiv 3) W (by omega) (by omega)
    rw [Forty.recV_L, ← rec40_V] at h
    exact h
  have HBO := Lib.hid (both_40 hk)
  generalize rec40 (aroundF ((aroundF n 1048576).tdiv 3) 40).toNat = r at *
  generalize pat40 (aroundF ((aroundF n 1048576).tdiv 3) 40).toNat = p at *
  have HNW := Lib.hid (fun W => ref_new r p W HBO.out)
  have b1 := (Box.new w 23 [.int .i64 v0, .int .i64 v1, .int .i64 v2, .int .i64 v3, .int .i64 v4, .int .i64 v5]).alloc (.cells zero17.toArray 34)
  have c1 := Box.new (w.alloc (.cells ([.int .i64 v0, .int .i64 v1, .int .i64 v2, .int .i64 v3, .int .i64 v4, .int .i64 v5] : List Value).toArray 23)) 34 zero17
  have hs1 : (w.alloc (.cells ([.int .i64 v0, .int .i64 v1, .int .i64 v2, .int .i64 v3, .int .i64 v4, .int .i64 v5] : List Value).toArray 23)).heap.size = w.heap.size + 1 := by simp
  rw [hs1] at c1
  have hx1 : Ext w ((w.alloc (.cells ([.int .i64 v0, .int .i64 v1, .int .i64 v2, .int .i64 v3, .int .i64 v4, .int .i64 v5] : List Value).toArray 23)).alloc (.cells zero17.toArray 34)) := Ext.alloc_ (Ext.alloc_ (Ext.refl w) _) _
  have HC1 := Lib.hid c1
  have HX1 := Lib.hid hx1
  have hb : (n.tmod 3 == 0) = false := by simpa using hm
  have HAR : Hid (∀ W, Calls Tryz.prog 38 #[.int .i64 n, .int .i64 1048576] W fun e w' => e = .returned (.int .i64 (aroundF n 1048576)) ∧ W = w') := Lib.hid fun W => around _ _ W hn.1 hn.2 (by omega) (by omega)
  clear b1 c1 hs1 hx1 hm hn hkb hk
  generalize aroundF n 1048576 = z at *
  go_enter Tryz.func48, Tryz.ntmps48
  go_upto_region 1 with fail
  change Code.wp _ _ _ _ ((w.alloc (.cells ([.int .i64 v0, .int .i64 v1, .int .i64 v2, .int .i64 v3, .int .i64 v4, .int .i64 v5] : List Value).toArray 23)).alloc (.cells zero17.toArray 34))
  generalize (w.alloc (.cells ([.int .i64 v0, .int .i64 v1, .int .i64 v2, .int .i64 v3, .int .i64 v4, .int .i64 v5] : List Value).toArray 23)).alloc (.cells zero17.toArray 34) = w1 at *
  go_wp2_with (first
    | (go_at_call 38; refine (HAR.out _).mono ?_; rintro e w5 ⟨rfl, rfl⟩)
    | (go_at_call 77; refine (HONE.out _).mono ?_; rintro e w2 ⟨rfl, hx2⟩)
    | (go_at_call 75; refine (HNW.out _).mono ?_; rintro e w3 ⟨A, B, C, D, c, d, a, b, rfl, hpt, hcap, hx3⟩; have HC3 := Lib.hid (HC1.out.ext (hx2.trans hx3)))
    | (refine wpList_store_row rfl 34 (.tmp 4) (.tmp 15) rfl (w.heap.size + 1) (refLV A B C D c d a b r p).toArray rfl rfl _ _ HC3.out infoRL rfl (refL_one A B C D c d a b r p) ?_))
  have hb5 := HC3.out.set (refLV A B C D c d a b r p).toArray
  have hle : w.heap.size ≤ w.heap.size + 1 := Nat.le_succ _
  refine bodyPost_ret (v := .agg (refLV A B C D c d a b r p).toArray) (results_cell_row rfl _ _ (w.heap.size + 1) _ _ _ _ rfl hb5 Tryz.underlying34 rfl infoRL) rfl ⟨A, B, C, D, c, d, a, b, rfl, pt_setRow HC3.out hpt _, hcap, Ext.setRow (HX1.out.trans (hx2.trans hx3)) hle _⟩
theorem locale_any (v0 v1 v2 v3 v4 v5 n : Int) (h0 : i64 v0) (h1 : i64 v1) (h2 : i64 v2) (h3 : i64 v3) (h4 : i64 v4) (h5 : i64 v5) (hn : i64 n) : ∃ r p, Kin r p ∧ LocaleC v0 v1 v2 v3 v4 v5 n r p := by
  by_cases hm : n.tmod 3 = 0
  · exact locale_good v0 v1 v2 v3 v4 v5 n h0 h1 h2 h3 h4 h5 hn hm
  · exact locale_forty v0 v1 v2 v3 v4 v5 n hn hm
end Go.Proofs.YthoicieckodneaaGreatDoor.Loc
