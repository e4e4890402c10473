/- Where the caret may stand, plain laws: each stop's nearest number. (Printed by wip/gen/law16.py.) -/
import Derived.Test.YthoicieckodneaaGreatDoorVwP4
import Derived.Test.YthoicieckodneaaGreatDoorVwW3b
import Derived.Test.YthoicieckodneaaGreatDoorVwW3c
import Derived.Test.YthoicieckodneaaGreatDoorVwB
import Derived.Test.YthoicieckodneaaGreatDoorVwL
namespace Go.Proofs.YthoicieckodneaaGreatDoor.Loc
open Go.RowKit Utf All Small Strs Build EncC Pat Cls Dec Go.Proofs.YthoicieckodneaaGreatDoor.Sys
set_option linter.unusedVariables false
set_option linter.unusedSimpArgs false

theorem box_two (w : World) (T U : TypeId) (cs ds : List Value) : Box ((w.alloc (.cells cs.toArray T)).alloc (.cells ds.toArray U)) (w.heap.size + 1) U ds := by
  have h := Box.new (w.alloc (.cells cs.toArray T)) U ds
  rwa [show (w.alloc (.cells cs.toArray T)).heap.size = w.heap.size + 1 by simp] at h
theorem intsN_len (S : List Nat) : (intsN S).length = S.length := by unfold intsN; simp
end Go.Proofs.YthoicieckodneaaGreatDoor.Loc
