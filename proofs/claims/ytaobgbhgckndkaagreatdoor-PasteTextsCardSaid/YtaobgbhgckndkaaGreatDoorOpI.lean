/- Openings of a law's arguments: a list of whole numbers. -/
import Derived.Test.YtaobgbhgckndkaaGreatDoorPaW7
import Derived.WideShapes
import Derived.RowKit
import Derived.ChangeSlices
import Derived.SliceStrings
namespace Go.Proofs.YtaobgbhgckndkaaGreatDoor.Loc
open Go.RowKit Utf All Small Strs Build Pat Cls Go.ChangeShapes
set_option linter.unusedVariables false
set_option linter.unusedSimpArgs false

theorem open_ints18 {H : Type} {enc : TypeId × Value → H} {W : World} {v : Value} {d : DataW H} {ps : List MemPlace} (hv : ∃ a len cap, v = .slice a len cap) (h : DataW.Trod enc Tryz.prog W 0 (fun _ => true) true 41 v d ps) :
    ∃ (A : Option Addr) (cap : Nat) (xs : List Int), v = .slice A xs.length cap ∧ Row W A (xs.map (Value.int .i64)) ∧ (∀ z ∈ xs, i64 z) ∧ xs.length ≤ maxLen := by
  obtain ⟨a, len, cap, rfl⟩ := hv
  obtain ⟨fuel, h⟩ := h
  rcases open_ints Tryz.underlying41 Tryz.underlying3 (by kernel_rfl) h with ⟨hcs, _⟩ | ⟨x, l, c, zs, hcs, _, hl, hm, hz, _, hcell, hwz⟩
  · simp [Value.cells] at hcs
    obtain ⟨rfl, rfl, rfl⟩ := hcs
    exact ⟨none, 0, [], rfl, .inl rfl, by simp, Nat.zero_le _⟩
  · simp [Value.cells] at hcs
    obtain ⟨rfl, rfl, rfl⟩ := hcs
    obtain ⟨h1, h2, xs, hx, hr, hw⟩ := row_of_is (w := W) (a := some x) (len := len) (cap := cap) (zs := zs) (.inr ⟨x, rfl, hl, hm, by simpa using hz, hcell, hwz⟩)
    exact ⟨some x, cap, xs, by rw [hx], hr, fun z hz' => ⟨(bounds_i64 (hw z hz')).1, (bounds_i64 (hw z hz')).2⟩, by omega⟩
end Go.Proofs.YtaobgbhgckndkaaGreatDoor.Loc
