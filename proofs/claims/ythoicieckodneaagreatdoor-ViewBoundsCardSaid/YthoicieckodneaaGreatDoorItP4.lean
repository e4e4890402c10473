/- A draft's items, plain laws: where an atom's item stands; the sign of an atom's text. No program. -/
import Derived.Test.YthoicieckodneaaGreatDoorJIt
namespace Go.Proofs.YthoicieckodneaaGreatDoor.Loc
open Go.RowKit Utf All Small Strs Build EncC Pat Cls Dec Go.Proofs.YthoicieckodneaaGreatDoor.Sys
set_option linter.unusedVariables false
set_option linter.unusedSimpArgs false

def hasA (k : Int) (x : It) : Bool := x.2.2 == k
def findZ (L : List It) (k : Int) : Int := idxF (hasA k) L
theorem atomI_at (l : Loc) (d : Dr) (k : Nat) : (atomI l d k).2.2 = (k : Int) := by unfold atomI; split <;> rfl
theorem atom_bd {d : Dr} (h : DrOk d) {k : Nat} (hk : k < (atomsF d).length) : atomAt d k = 10 ∨ (0 ≤ atomAt d k ∧ atomAt d k ≤ 9) := by
  have hm : atomAt d k ∈ atomsF d := by
    unfold atomAt
    rw [List.getD_eq_getElem?_getD, List.getElem?_eq_getElem hk]
    exact List.getElem_mem hk
  generalize atomAt d k = a at *
  unfold atomsF at hm
  rcases List.mem_append.1 hm with hm | hm
  · exact .inr (h.int _ hm)
  · rcases List.mem_append.1 hm with hm | hm
    · split at hm
      · exact .inl (by simpa using hm)
      · cases hm
    · exact .inr (h.frac _ hm)
end Go.Proofs.YthoicieckodneaaGreatDoor.Loc
