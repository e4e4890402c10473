/- Copies that the shaken groups lack. (Printed by wip/gen/pkx.py.) -/
import Derived.Test.YtcghgkagpkmpeaaGreatDoorJPaW
import Derived.Test.YtcghgkagpkmpeaaGreatDoorSplR
set_option linter.unusedVariables false
set_option linter.unusedSimpArgs false
