/- Walks: the document's stops, the nearest number, the tag of a byte. -/
import Derived.Test.YthoicieckodneaaGreatDoorVwP4
import Derived.Test.YthoicieckodneaaGreatDoorVwW3
import Derived.Test.YthoicieckodneaaGreatDoorItW4
import Derived.Test.YthoicieckodneaaGreatDoorItW3
import Derived.Test.YthoicieckodneaaGreatDoorLBegin
import Derived.Test.YthoicieckodneaaGreatDoorItP5
namespace Go.Proofs.YthoicieckodneaaGreatDoor.Loc
open Go.RowKit Utf All Small Strs Build EncC Pat Cls Dec Go.Proofs.YthoicieckodneaaGreatDoor.Sys
set_option linter.unusedVariables false
set_option linter.unusedSimpArgs false

theorem its_take (L : List It) {k : Nat} (hk : k ≤ L.length) : itsV (L.take k) = (itsV L).take (k * 3) := by
  have h2 : (itsV (L.take k)).length = k * 3 := by rw [its_len, List.length_take]; omega
  have h1 : itsV L = itsV (L.take k) ++ itsV (L.drop k) := by rw [← its_app, List.take_append_drop]
  generalize itsV (L.take k) = A at *
  generalize itsV (L.drop k) = B at *
  rw [h1, ← h2]
  simp
end Go.Proofs.YthoicieckodneaaGreatDoor.Loc
