/- The forty names are distinct; where a name stands. -/
import Derived.Test.YtdkjkbbibdppoaaGreatDoorForty5
namespace Go.Proofs.YtdkjkbbibdppoaaGreatDoor.Forty
open Go.RowKit Small
set_option linter.unusedVariables false
set_option linter.unusedSimpArgs false

theorem names_distinct : ∀ i j : Fin 40, nameAt i.1 = nameAt j.1 → i = j := by decide +kernel
theorem findZ_name (k : Nat) (hk : k < 40) : findZ (nameAt k) = k := by
  refine findZ_hit _ k hk (fun j hj e => ?_) rfl
  have hjk : j < k := by simpa using hj
  have := names_distinct ⟨j, by omega⟩ ⟨k, hk⟩ e
  have : j = k := congrArg Fin.val this
  omega
theorem findZ_lt (s : ByteArray) : findZ s < 40 := by
  unfold findZ idxF
  cases h : (List.range 40).findIdx? (fun k => decide (nameAt k = s)) with
  | none => simp
  | some i =>
    have := (List.findIdx?_eq_some_iff_getElem.1 h).1
    simp at this ⊢; omega
end Go.Proofs.YtdkjkbbibdppoaaGreatDoor.Forty
