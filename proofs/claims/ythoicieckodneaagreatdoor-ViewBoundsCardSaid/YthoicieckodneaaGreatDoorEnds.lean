/- Walks of the integer functions that ItemEnds reaches. -/
import Derived.Test.YthoicieckodneaaGreatDoorRows
import Derived.Test.YthoicieckodneaaGreatDoorJIt
import Derived.WalkKit
import Derived.Handy
import Derived.BigQuiet
import Derived.Deep.QuietTactic
import Derived.Lib.Hide
import Derived.WalkLawsBesides
namespace Go.Proofs.YthoicieckodneaaGreatDoor.Ends
open Go.RowKit
set_option linter.unusedVariables false
set_option linter.unusedSimpArgs false

theorem ret_int {k : IntKind} {a b : Int} (h : a = b) : Ending.returned (.int k a) = .returned (.int k b) := by rw [h]
theorem ret_bool {a b : Bool} (h : a = b) : Ending.returned (.bool a) = .returned (.bool b) := by rw [h]

def aroundF (n m : Int) : Int := (if n < 0 then -(n + 1) else n) % m

set_option maxHeartbeats 400000 in
theorem around (n m : Int) (w : World) (h1 : -9223372036854775808 ≤ n) (h2 : n ≤ 9223372036854775807) (hm : 1 ≤ m) (hm2 : m ≤ 9223372036854775807) :
    Calls Tryz.prog 38 #[.int .i64 n, .int .i64 m] w fun e w' => e = .returned (.int .i64 (aroundF n m)) ∧ w = w' := by
  by_cases hn : n < 0
  · go_enter Tryz.func38, Tryz.ntmps38
    go_wp2
    go_ret
    refine ⟨ret_int ?_, rfl⟩
    rw [aroundF, if_pos hn, ← Int.neg_tmod]
    exact Int.tmod_eq_emod_of_nonneg (by omega)
  · have hn' : 0 ≤ n := by omega
    go_enter Tryz.func38, Tryz.ntmps38
    go_wp2
    go_ret
    refine ⟨ret_int ?_, rfl⟩
    rw [aroundF, if_neg (by omega)]
theorem aroundF_bd (n m : Int) (hm : 1 ≤ m) : 0 ≤ aroundF n m ∧ aroundF n m < m := ⟨Int.emod_nonneg _ (by omega), Int.emod_lt_of_pos _ (by omega)⟩

set_option maxHeartbeats 400000 in
theorem item_ends (l p s : Int) (w : World) (h2 : l ≤ 9223372036854775807) (hp2 : p ≤ 9223372036854775807) (hs2 : s ≤ 9223372036854775807) :
    Calls Tryz.prog 54 #[.int .i64 l, .int .i64 p, .int .i64 s] w fun e w' => e = .returned (.bool (itemEnds l p s)) ∧ w = w' := by
  go_enter Tryz.func54, Tryz.ntmps54
  go_wp2
  all_goals
    go_ret
    refine ⟨ret_bool ?_, rfl⟩
    unfold itemEnds
  · rw [if_pos (by omega)]
  · rename_i h; rw [if_neg (by omega), if_pos (by simpa using h)]
  · rename_i h _; rw [if_neg (by omega), if_neg (by simpa using h), if_pos (by omega)]; rfl
  · rename_i h _; rw [if_neg (by omega), if_neg (by simpa using h), if_neg (by omega)]
  · rw [if_pos (by omega)]
  · rw [if_pos (by omega)]




theorem ends_step (l n s : Int) (h : n < l) (hs : 0 < s) (hn : 1 ≤ n) : itemEnds l (n + s) s = itemEnds l n s := by
  unfold itemEnds
  rw [if_neg (by omega : ¬ (l < 1 ∨ n < 1 ∨ l < n)), if_neg (by omega : ¬ l = n), if_pos hs, if_pos hs]
  by_cases h1 : l < n + s
  · rw [if_pos (by omega)]
    symm
    rw [decide_eq_false_iff_not, Int.emod_eq_of_lt (by omega) (by omega)]
    omega
  · rw [if_neg (by omega)]
    have e : l - (n + s) = l - n - s := by omega
    by_cases h2 : l = n + s
    · rw [if_pos h2]
      symm
      rw [decide_eq_true_iff, show l - n = s by omega, Int.emod_self]
    · rw [if_neg h2, e, Int.sub_emod_right]

set_option maxHeartbeats 400000 in
theorem ref_ends (l p s : Int) (w : World) (h2 : l ≤ 1000000000) (hp2 : p ≤ 1000000000) (hs2 : s ≤ 1000000000) :
    Calls Tryz.prog 61 #[.int .i64 l, .int .i64 p, .int .i64 s] w fun e w' => e = .returned (.bool (itemEnds l p s)) ∧ w = w' := by
  by_cases hl : l < 1
  · go_enter Tryz.func61, Tryz.ntmps61
    go_wp2
    go_ret
    exact ⟨ret_bool (by unfold itemEnds; rw [if_pos (by omega)]), rfl⟩
  by_cases hp : p < 1
  · go_enter Tryz.func61, Tryz.ntmps61
    go_wp2
    go_ret
    exact ⟨ret_bool (by unfold itemEnds; rw [if_pos (by omega)]), rfl⟩
  have hl' : 1 ≤ l := by omega
  have hp' : 1 ≤ p := by omega
  clear hl hp
  go_enter Tryz.func61, Tryz.ntmps61
  go_wp2
  go_loop [7] (fun t => ∃ n : Int, 1 ≤ n ∧ n ≤ 2000000000 ∧ itemEnds l n s = itemEnds l p s ∧ t = .int .i64 n) (fun t => (l - intOf t).toNat)
  case atStart => exact ⟨p, hp', by omega, rfl, rfl⟩
  case round =>
    obtain ⟨n, hn1, hn2, he, rfl⟩ := hrel
    have HE := Lib.hid he
    clear he
    by_cases hc : n < l
    · by_cases hs : 0 < s
      · go_wp2
        go_round
        case rel => exact ⟨n + s, by omega, by omega, by rw [ends_step l n s hc hs hn1, HE.out], rfl⟩
        case measure => simp [intOf]; omega
      · go_wp2
        go_ret
        refine ⟨ret_bool ?_, rfl⟩
        rw [← HE.out]
        unfold itemEnds
        rw [if_neg (by omega), if_neg (by omega), if_neg (by omega)]
        simp; omega
    · go_wp2
      go_ret
      refine ⟨ret_bool ?_, rfl⟩
      rw [← HE.out]
      unfold itemEnds
      by_cases h : l < n
      · rw [if_pos (by omega)]; simp; omega
      · rw [if_neg (by omega), if_pos (by omega)]; simp; omega


end Go.Proofs.YthoicieckodneaaGreatDoor.Ends
