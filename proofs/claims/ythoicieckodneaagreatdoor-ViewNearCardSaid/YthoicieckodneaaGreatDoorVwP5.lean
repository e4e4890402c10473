/- Where the caret may stand, plain laws: each stop's nearest number. (Printed by wip/gen/law16.py.) -/
import Derived.Test.YthoicieckodneaaGreatDoorVwP4
import Derived.Test.YthoicieckodneaaGreatDoorVwW3b
import Derived.Test.YthoicieckodneaaGreatDoorVwW3c
import Derived.Test.YthoicieckodneaaGreatDoorVwB
import Derived.Test.YthoicieckodneaaGreatDoorVwL
namespace Go.Proofs.YthoicieckodneaaGreatDoor.Loc
open Go.RowKit Utf All Small Strs Build EncC Pat Cls Dec Go.Proofs.YthoicieckodneaaGreatDoor.Sys
set_option linter.unusedVariables false
set_option linter.unusedSimpArgs false

theorem box_two (w : World) (T U : TypeId) (cs ds : List Value) : Box ((w.alloc (.cells cs.toArray T)).alloc (.cells ds.toArray U)) (w.heap.size + 1) U ds := by
  have h := Box.new (w.alloc (.cells cs.toArray T)) U ds
  rwa [show (w.alloc (.cells cs.toArray T)).heap.size = w.heap.size + 1 by simp] at h
theorem intsN_up {S : List Nat} (h : S.Pairwise (· < ·)) : (intsN S).Pairwise (· < ·) := by
  unfold intsN
  rw [List.pairwise_map]
  exact h.imp fun {a b} hab => by omega
theorem intsN_len (S : List Nat) : (intsN S).length = S.length := by unfold intsN; simp
theorem near_self {S : List Nat} (h : S.Pairwise (· < ·)) {k : Nat} (hk : k < S.length) : nearTo (intsN S) ((S.getD k 0 : Nat) : Int) S.length = (k : Int) := by
  by_cases hk1 : k + 1 < S.length
  · have hp := pair_lt h (show k < k + 1 by omega) hk1
    have h1 := near_stop (intsN_up h) (off := ((S.getD k 0 : Nat) : Int)) (k := k + 1) (by rw [intsN_len]; omega) (by rw [intsN_at]; omega) S.length (by omega) (by rw [intsN_len]; omega)
    rw [h1, near_succ, intsN_at, if_pos (Int.le_refl _)]
  · have e : S.length = k + 1 := by omega
    rw [e, near_succ, intsN_at, if_pos (Int.le_refl _)]
theorem near_pre {S : List Nat} (h : S.Pairwise (· < ·)) {k : Nat} (hk0 : 0 < k) (hk : k < S.length) : nearTo (intsN S) (((S.getD k 0 : Nat) : Int) - 1) S.length = (k : Int) - 1 := by
  obtain ⟨j, rfl⟩ : ∃ j, k = j + 1 := ⟨k - 1, by omega⟩
  have hp := pair_lt h (show j < j + 1 by omega) hk
  have h1 := near_stop (intsN_up h) (off := ((S.getD (j + 1) 0 : Nat) : Int) - 1) (k := j + 1) (by rw [intsN_len]; omega) (by rw [intsN_at]; omega) S.length (by omega) (by rw [intsN_len]; omega)
  rw [h1, near_succ, intsN_at, if_pos (by omega)]
  omega
end Go.Proofs.YthoicieckodneaaGreatDoor.Loc
