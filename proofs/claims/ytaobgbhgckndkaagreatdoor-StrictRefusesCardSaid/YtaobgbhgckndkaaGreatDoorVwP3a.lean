/- Where the caret may stand, plain laws: what stands ahead of a stop. No program. -/
import Derived.Test.YtaobgbhgckndkaaGreatDoorJIt
namespace Go.Proofs.YtaobgbhgckndkaaGreatDoor.Loc
open Go.RowKit Utf All Small Strs Build EncC Pat Cls Dec Go.Proofs.YtaobgbhgckndkaaGreatDoor.Sys
set_option linter.unusedVariables false
set_option linter.unusedSimpArgs false

/-! ### how many bytes -/
end Go.Proofs.YtaobgbhgckndkaaGreatDoor.Loc
