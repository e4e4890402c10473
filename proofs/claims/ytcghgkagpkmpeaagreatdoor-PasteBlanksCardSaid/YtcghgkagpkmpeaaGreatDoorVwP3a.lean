/- Where the caret may stand, plain laws: what stands ahead of a stop. No program. -/
import Derived.Test.YtcghgkagpkmpeaaGreatDoorJIt
set_option linter.unusedVariables false
set_option linter.unusedSimpArgs false
namespace Go.Proofs.YtcghgkagpkmpeaaGreatDoor.Loc
open Go.RowKit Utf All Small Strs Build EncC Pat Cls Dec Go.Proofs.YtcghgkagpkmpeaaGreatDoor.Sys
end Go.Proofs.YtcghgkagpkmpeaaGreatDoor.Loc
