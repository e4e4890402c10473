/- Walks: a byte's tag. -/
import Derived.Test.YthoicieckodneaaGreatDoorVwW3
namespace Go.Proofs.YthoicieckodneaaGreatDoor.Loc
open Go.RowKit Utf All Small Strs Build EncC Pat Cls Dec Go.Proofs.YthoicieckodneaaGreatDoor.Sys
set_option linter.unusedVariables false
set_option linter.unusedSimpArgs false

section
variable {vb : Nat} {E : Option Addr} {cE : Nat} {F : Option Addr} {cF : Nat} {L : List It} {S : List Nat} {w : World}
end
end Go.Proofs.YthoicieckodneaaGreatDoor.Loc
