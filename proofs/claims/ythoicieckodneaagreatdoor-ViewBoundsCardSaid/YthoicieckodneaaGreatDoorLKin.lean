/- The locales of a law: made one that may be, or one of the forty. -/
import Derived.Test.YthoicieckodneaaGreatDoorJLForty
import Derived.Test.YthoicieckodneaaGreatDoorJLocE
namespace Go.Proofs.YthoicieckodneaaGreatDoor.Loc
open Go.RowKit Utf All Small Strs Build EncC Pat Cls Dec Go.Proofs.YthoicieckodneaaGreatDoor.Sys
set_option linter.unusedVariables false
set_option linter.unusedSimpArgs false

/-- made one that may be, or one of the forty -/
def Kin (r : Rec) (p : Pt) : Prop := (∃ v0 v1 v2 v3 v4 v5 : Int, r = goodR v0 v1 v2 v3 v4 v5 ∧ p = patAt (aroundF v1 10).toNat) ∨ ∃ k, k < 40 ∧ r = rec40 k ∧ p = pat40 k
theorem Kin.both {r : Rec} {p : Pt} (h : Kin r p) : Both r p := by
  rcases h with ⟨v0, v1, v2, v3, v4, v5, rfl, rfl⟩ | ⟨k, hk, rfl, rfl⟩
  · exact both_good v0 v1 v2 v3 v4 v5
  · exact both_40 hk
def numB (p : Pt) : Bool := decide (0 ≤ p.num.prim) && decide (p.num.prim ≤ 100) && decide (0 ≤ p.num.sec) && decide (p.num.sec ≤ 100)
theorem num_pats : ∀ j : Fin 10, numB (patAt j.val) = true := by decide +kernel
theorem num_40 : ∀ k : Fin 40, numB (pat40 k.val) = true := by decide +kernel
theorem Kin.num {r : Rec} {p : Pt} (h : Kin r p) : 0 ≤ p.num.prim ∧ p.num.prim ≤ 100 ∧ 0 ≤ p.num.sec ∧ p.num.sec ≤ 100 := by
  have hb : numB p = true := by
    rcases h with ⟨v0, v1, v2, v3, v4, v5, rfl, rfl⟩ | ⟨k, hk, rfl, rfl⟩
    · have hb := aroundF_bd v1 10 (by omega)
      exact num_pats ⟨(aroundF v1 10).toNat, by omega⟩
    · exact num_40 ⟨k, hk⟩
  unfold numB at hb
  simp only [Bool.and_eq_true, decide_eq_true_eq] at hb
  exact ⟨hb.1.1.1, hb.1.1.2, hb.1.2, hb.2⟩
end Go.Proofs.YthoicieckodneaaGreatDoor.Loc
