/- Where the caret may stand, plain laws: what stands ahead of a stop. No program. -/
import Derived.Test.YthoicieckodneaaGreatDoorJIt
namespace Go.Proofs.YthoicieckodneaaGreatDoor.Loc
open Go.RowKit Utf All Small Strs Build EncC Pat Cls Dec Go.Proofs.YthoicieckodneaaGreatDoor.Sys
set_option linter.unusedVariables false
set_option linter.unusedSimpArgs false

theorem bTo_mem {L : List It} {v : Nat} : ∀ {k : Nat}, v ∈ bTo L k → ∃ i x, L[i]? = some x ∧ isAt x = true ∧ v = cum L (i + 1)
  | 0, h => by cases h
  | k + 1, h => by
    rw [bTo_succ] at h
    rcases List.mem_append.1 h with h | h
    · exact bTo_mem h
    · unfold stopB at h
      split at h
      · rename_i hk
        rw [List.mem_singleton] at h
        unfold atK at hk
        cases hx : L[k]? with
        | none => rw [hx] at hk; cases hk
        | some x => rw [hx] at hk; exact ⟨k, x, hx, by simpa using hk, h⟩
      · cases h
/-! ### how many bytes -/
end Go.Proofs.YthoicieckodneaaGreatDoor.Loc
