/- Walks: the names of the forty. -/
import Derived.Test.YtbhmmodphjmlmaaForty3
namespace Go.Proofs.Ytbhmmodphjmlmaa.Forty
open Go.RowKit Go.Shelf Small
set_option linter.unusedVariables false
set_option linter.unusedSimpArgs false
attribute [local go_sem] Oper.semAt_some

theorem KeepsR.grown {W W' : World} {row : Option Nat} (hg : W.grownBy W' row) (h : ∀ (r : Nat) (cs : Array Value) (fz : Nat × Nat), row = some r → W.heap[r]? ≠ some (Obj.cells cs 61 fz)) : KeepsR W W' := fun i cs fz hi => by
  have hlt : i < W.heap.size := (Array.getElem?_eq_some_iff.1 hi).1
  exact (hg.block i hlt (fun e => h i cs fz e.symm hi)).trans hi
theorem KeepsR.alloc (W : World) (o : Obj) : KeepsR W (W.alloc o) := .grown (World.grownBy_alloc W o none) (fun r cs fz e => by cases e)
theorem KeepsR.setCell {W : World} {B : Nat} {cs : Array Value} {t : TypeId} {fz : Nat × Nat} (h : W.heap[B]? = some (Obj.cells cs t fz)) (ht : t ≠ 61) (j : Nat) (v : Value) : KeepsR W (W.setCell ⟨B, j, none⟩ v) := fun i cs' fz' hi => by
  by_cases e : i = B
  · subst e; rw [h] at hi; injection hi with hi; injection hi with _ h2 _; exact absurd h2 ht
  · exact (heap_setCell_other W _ i v e).trans hi
theorem KeepsR.putObj {w : World} (W : World) (l : Nat) (o o' : Obj) (_ : w.heap.size ≤ l) (h : W.heap[l]? = some o) (hc : o.isCells = false) (_ : o.isWalk = false) : KeepsR W (W.putObj l o') := fun i cs fz hi => by
  by_cases e : i = l
  · subst e; rw [h] at hi; injection hi with hi; subst hi; cases hc
  · exact (World.putObj_heap_other e).trans hi
theorem own_type {w : World} {base e sz n : Nat} {v : Value} {cs : List Value} (h : w.ownsRow base e sz v n cs) (he : e ≠ 61) (r : Nat) (ds : Array Value) (fz : Nat × Nat) (hr : v.ownBlock = some r) : w.heap[r]? ≠ some (Obj.cells ds 61 fz) := by
  intro hc
  rcases h.2 with ⟨hv, _⟩ | ⟨g, cap, cur, hv, _, hg, _⟩
  · rw [hv] at hr; simp [Value.ownBlock] at hr
  · rw [hv] at hr
    simp [Value.ownBlock] at hr
    subst hr
    rw [hg] at hc
    injection hc with hc
    injection hc with _ h2 _
    exact he h2

def namesV (pre : List Nat) : List Value := pre.map fun k => Value.string (nameAt k)
theorem namesV_snoc (pre : List Nat) (x : Nat) : namesV (pre ++ [x]) = namesV pre ++ [.string (nameAt x)] := by simp [namesV]
theorem namesV_len (pre : List Nat) : (namesV pre).length = pre.length := by simp [namesV]
theorem info9 : (Try.prog.info? 9).map (fun i => (i.zero, i.size, i.bytes)) = some (some (.string ⟨#[]⟩), 1, 16) := by kernel_rfl

set_option maxRecDepth 100000 in
set_option maxHeartbeats 2000000 in
theorem names_in (w : World) : CallsIn Fence.wide 3 Try.prog 41 #[] w fun e W' => ∃ v, e = .returned v ∧ W'.ownsRow w.heap.size 9 1 v 40 (namesV (List.range 40)) ∧ Ext w W' := by
  obtain ⟨i0, hi, hz0, hz1, hz2⟩ := info_parts info9
  refine callsIn_of_wp_marks Try.func41 rfl trivial ?_ rfl
  simp only [Try.ntmps41, List.size_toArray, List.length_cons, List.length_nil, Nat.reduceAdd, Nat.reduceSub, Array.replicate_succ, Array.replicate_zero, List.push_toArray, List.append_toArray, List.nil_append, List.cons_append]
  gi_wp2
  refine ⟨trivial, ?_⟩
  gi_at_call 40
  refine (callsIn_wide.2 (forty_all _)).mono ?_
  rintro e w' ⟨rfl, rfl⟩
  gi_wp2
  have bO := Boxed.new w 47 (.slice none 0 0)
  have hB0 : Below w.heap.size w (w.alloc (.cells #[.slice none 0 0] 47)) := (Below.refl _ w).alloc (Nat.le_refl _) _
  refine wpIn_rangeFunc_ownG rfl (by omega) (gf := 61) (lb := #[]) rfl trivial (enters_of Try.func61 (by kernel_rfl) rfl)
    (all_stops 2 (by omega) (w.alloc (.cells #[.slice none 0 0] 47))) KeepsR.trans KeepsR.putObj (Below.refl _ _) (fun _ => rfl)
    (fun pre W => (∃ v, Boxed W w.heap.size 47 v ∧ W.ownsRow w.heap.size 9 1 v pre.length (namesV pre) ∧ True) ∧ Below w.heap.size w W)
    (fun _ _ _ => False)
    (OwnFrom.and (Own.from (holdsRow_own w.heap.size w.heap.size 47 9 1 (fun (pre : List Nat) => pre.length) (fun pre => namesV pre) (fun pre v => True)) _) (ownFrom_below (Nat.le_refl _) (by simp)))
    (fun _ _ _ _ _ hs _ _ => hs)
    ⟨⟨_, bO, World.ownsRow_nil _ _ _ _, trivial⟩, hB0⟩
    (fun x => { tmps := #[.slice none 0 0, .pointer (some ⟨w.heap.size, 0, none⟩), .string (nameAt x), .func (.func 61) #[] #[], .string (nameAt x), recV x, undef, undef, undef, undef, undef], defers := [] }) ?assign ?body ?done ?stop
  case assign =>
    intro l x W K hK
    unfold encs
    gi_wp2
    exact hK
  case body =>
    rintro l pre x W ⟨⟨v, hv, hrow, -⟩, hB⟩ hlt
    have hc := hv.cell
    have hvl := hv.lt
    have HV := Lib.hid (show W.heap[w.heap.size]? = some (Obj.cells #[v] 47 (0, 0)) from hv)
    have HT := Lib.hid (own_type (hrow.alloc (.cells #[.string (nameAt x)] 9)) (by decide))
    generalize recV x = rx at *
    gi_wp2_with (gi_at_builtin; refine wpListIn_append_own _ rfl _ _ 47 rfl w.heap.size 9 i0 (.string ⟨#[]⟩) 1 16 Try.underlying47 hi hz0 hz1 hz2 rfl (by decide) _ _ _ rfl (hrow.alloc _) ⟨W.heap.size, 0, none⟩ 1 1 [.string (nameAt x)] rfl rfl (cell_one_new _ _ _) (by simp [Value.oneCell']) (by unfold maxLen; omega) (by omega) (by have := hB.size; simp; omega) ?_; intro v' w1 hown' hgrow _; obtain ⟨g', cap', rfl⟩ := ownsRow_succ hown'; obtain ⟨hv1, hv2, hr2, hk2, hb2⟩ := hv.appended (by decide) hrow hB.size (Nat.le_refl _) hown' hgrow; have hc1 := hv1.cell; have hf1 := hv1.frozen)
    have hkr : KeepsR W (w1.setCell ⟨w.heap.size, 0, none⟩ (.slice (some ⟨g', 0, none⟩) (pre.length + 1) cap')) :=
      (KeepsR.alloc W _).trans ((KeepsR.grown hgrow HT.out).trans (KeepsR.setCell (show w1.heap[w.heap.size]? = some (Obj.cells #[v] 47 (0, 0)) from hv1) (by decide) 0 _))
    exact ⟨hk2.from _, hkr, ⟨_, hv2, by rw [namesV_snoc]; simpa using hr2, trivial⟩, hB.trans hb2⟩
  case done =>
    rintro D ys W hD rfl ⟨⟨v, hv, hrow, -⟩, hB⟩ hK
    have hc := hv.cell
    gi_wp2
    refine ⟨by simp, .inl ⟨_, _, rfl, run_takeDeferred hK, ?_⟩⟩
    exact ⟨_, results_tmp rfl _ _ _, v, rfl, by simpa using ownsRow_putObj hrow _ hK rfl, hB.trans (belowK_b (w := w) (Nat.le_refl _) W D _ _ (by simp at hD; omega) hK rfl rfl)⟩
  case stop =>
    rintro D c pre W _ _ h _
    exact h.elim
theorem forty_names (w : World) : Calls Try.prog 41 #[] w fun e W' => ∃ A c, e = .returned (.slice A 40 c) ∧ Row W' A (namesV (List.range 40)) ∧ Ext w W' :=
  (callsIn_wide.1 (names_in w)).mono fun e W' ⟨v, he, hr, hx⟩ => by
    obtain ⟨A, c, rfl⟩ := own_form hr
    exact ⟨A, c, he, Row.of_own hr, hx⟩
end Go.Proofs.Ytbhmmodphjmlmaa.Forty
