/- Where the caret may stand, plain laws: what stands ahead of a stop. No program. -/
import Derived.Test.YthoicieckodneaaGreatDoorJIt
namespace Go.Proofs.YthoicieckodneaaGreatDoor.Loc
open Go.RowKit Utf All Small Strs Build EncC Pat Cls Dec Go.Proofs.YthoicieckodneaaGreatDoor.Sys
set_option linter.unusedVariables false
set_option linter.unusedSimpArgs false

theorem bTo_mem {L : List It} {v : Nat} : ∀ {k : Nat}, v ∈ bTo L k → ∃ i x, L[i]? = some x ∧ isAt x = true ∧ v = cum L (i + 1)
  | 0, h => by cases h
  | k + 1, h => by
    rw [bTo_succ] at h
    rcases List.mem_append.1 h with h | h
    · exact bTo_mem h
    · unfold stopB at h
      split at h
      · rename_i hk
        rw [List.mem_singleton] at h
        unfold atK at hk
        cases hx : L[k]? with
        | none => rw [hx] at hk; cases hk
        | some x => rw [hx] at hk; exact ⟨k, x, hx, by simpa using hk, h⟩
      · cases h
/-- what stands ahead of a stop is no group; behind an atom's no affix -/
theorem stop_tag {L : List It} {a : Nat} (h : ∀ k, k < a → atK L k = false) (hl : ∀ (i : Nat) (x : It), i < a → L[i]? = some x → x.1 ≠ 3) (ha : a ≤ L.length)
    (hne : ∀ x ∈ L, isAt x = true → x.2.1 ≠ []) {k v : Nat} (hv : (stopsP L a)[k]? = some v) : tagF L ((v : Int) - 1) ≠ 3 ∧ (0 < k → tagF L ((v : Int) - 1) ≠ 0) := by
  rw [stops_all h ha] at hv
  cases k with
  | zero =>
    have e : cum L a = v := by simpa using hv
    subst e
    refine ⟨?_, fun h0 => by omega⟩
    by_cases hz : cum L a = 0
    · rw [hz]; unfold tagF; rw [if_pos (by omega)]; omega
    · obtain ⟨i, x, hi, hx, ht⟩ := tag_mem (L := L) (k := a) (o := (cum L a : Int) - 1) (by omega) (by omega)
      rw [ht]; exact hl i x hi hx
  | succ j =>
    have hm : v ∈ bTo L L.length := List.mem_of_getElem? (by simpa using hv)
    obtain ⟨i, x, hx, hat, rfl⟩ := bTo_mem hm
    have hpos : 0 < x.2.1.length := List.length_pos_iff.2 (hne x (List.mem_of_getElem? hx) hat)
    have hc := cum_succ hx
    have ht := tag_at i x ((cum L (i + 1) : Int) - 1) hx (by omega) (by omega)
    rw [ht]
    unfold isAt at hat
    simp only [Bool.or_eq_true, beq_iff_eq] at hat
    exact ⟨by omega, fun _ => by omega⟩
/-! ### how many bytes -/
end Go.Proofs.YthoicieckodneaaGreatDoor.Loc
