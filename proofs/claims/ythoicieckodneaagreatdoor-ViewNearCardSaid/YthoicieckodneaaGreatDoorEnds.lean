/- Walks of the integer functions that ItemEnds reaches. -/
import Derived.Test.YthoicieckodneaaGreatDoorRows
import Derived.Test.YthoicieckodneaaGreatDoorJIt
import Derived.WalkKit
import Derived.Handy
import Derived.BigQuiet
import Derived.Deep.QuietTactic
import Derived.Lib.Hide
import Derived.WalkLawsBesides
namespace Go.Proofs.YthoicieckodneaaGreatDoor.Ends
open Go.RowKit
set_option linter.unusedVariables false
set_option linter.unusedSimpArgs false

theorem ret_int {k : IntKind} {a b : Int} (h : a = b) : Ending.returned (.int k a) = .returned (.int k b) := by rw [h]
theorem ret_bool {a b : Bool} (h : a = b) : Ending.returned (.bool a) = .returned (.bool b) := by rw [h]

def aroundF (n m : Int) : Int := (if n < 0 then -(n + 1) else n) % m

set_option maxHeartbeats 400000 in
theorem around (n m : Int) (w : World) (h1 : -9223372036854775808 ≤ n) (h2 : n ≤ 9223372036854775807) (hm : 1 ≤ m) (hm2 : m ≤ 9223372036854775807) :
    Calls Tryz.prog 38 #[.int .i64 n, .int .i64 m] w fun e w' => e = .returned (.int .i64 (aroundF n m)) ∧ w = w' := by
  by_cases hn : n < 0
  · go_enter Tryz.func38, Tryz.ntmps38
    go_wp2
    go_ret
    refine ⟨ret_int ?_, rfl⟩
    rw [aroundF, if_pos hn, ← Int.neg_tmod]
    exact Int.tmod_eq_emod_of_nonneg (by omega)
  · have hn' : 0 ≤ n := by omega
    go_enter Tryz.func38, Tryz.ntmps38
    go_wp2
    go_ret
    refine ⟨ret_int ?_, rfl⟩
    rw [aroundF, if_neg (by omega)]
theorem aroundF_bd (n m : Int) (hm : 1 ≤ m) : 0 ≤ aroundF n m ∧ aroundF n m < m := ⟨Int.emod_nonneg _ (by omega), Int.emod_lt_of_pos _ (by omega)⟩

set_option maxHeartbeats 400000 in
theorem item_ends (l p s : Int) (w : World) (h2 : l ≤ 9223372036854775807) (hp2 : p ≤ 9223372036854775807) (hs2 : s ≤ 9223372036854775807) :
    Calls Tryz.prog 54 #[.int .i64 l, .int .i64 p, .int .i64 s] w fun e w' => e = .returned (.bool (itemEnds l p s)) ∧ w = w' := by
  go_enter Tryz.func54, Tryz.ntmps54
  go_wp2
  all_goals
    go_ret
    refine ⟨ret_bool ?_, rfl⟩
    unfold itemEnds
  · rw [if_pos (by omega)]
  · rename_i h; rw [if_neg (by omega), if_pos (by simpa using h)]
  · rename_i h _; rw [if_neg (by omega), if_neg (by simpa using h), if_pos (by omega)]; rfl
  · rename_i h _; rw [if_neg (by omega), if_neg (by simpa using h), if_neg (by omega)]
  · rw [if_pos (by omega)]
  · rw [if_pos (by omega)]


set_option maxHeartbeats 400000 in
theorem item_groups_neg (n p s : Int) (w : World) (h1 : -9223372036854775808 ≤ n) (hn : n < 0) :
    Calls Tryz.prog 27 #[.int .i64 n, .int .i64 p, .int .i64 s] w fun e w' => e = .returned (.int .i64 0) ∧ w = w' := by
  go_enter Tryz.func27, Tryz.ntmps27
  go_wp2
  go_loop [7, 8, 11] (fun m _ i => m = .int .i64 0 ∧ i = .int .i64 0) (fun _ _ _ => 0)
  case atStart => exact ⟨rfl, rfl⟩
  case round =>
    obtain ⟨rfl, rfl⟩ := hrel
    go_wp2
    go_ret
    exact ⟨rfl, rfl⟩

set_option maxHeartbeats 400000 in
theorem item_groups (N : Nat) (p s : Int) (w : World) (h2 : (N : Int) ≤ 9223372036854775807) (hp2 : p ≤ 9223372036854775807) (hs2 : s ≤ 9223372036854775807) :
    Calls Tryz.prog 27 #[.int .i64 N, .int .i64 p, .int .i64 s] w fun e w' => e = .returned (.int .i64 (groupsN p s N)) ∧ w = w' := by
  have hn' : (0 : Int) ≤ N := by omega
  go_enter Tryz.func27, Tryz.ntmps27
  go_wp2
  go_loop [7, 8, 11] (fun m _ i => ∃ k : Nat, k ≤ N ∧ i = .int .i64 k ∧ m = .int .i64 (groupsN p s k)) (fun _ _ i => N - (intOf i).toNat)
  case atStart => exact ⟨0, Nat.zero_le _, rfl, rfl⟩
  case round =>
    obtain ⟨k, hk, rfl, rfl⟩ := hrel
    have hb := groupsN_bd p s k
    by_cases hlt : k < N
    · have HS : Hid (groupsN p s (k + 1) = groupsN p s k + if itemEnds k p s then 1 else 0) := rfl
      generalize hg : groupsN p s k = g at *
      have HG := Lib.hid hg
      clear hg
      cases he : itemEnds k p s
      all_goals
        have HE := Lib.hid he
        clear he
        go_wp2_with (go_at_call 54; refine (item_ends _ _ _ _ (by omega) hp2 hs2).mono ?_; rintro e w' ⟨rfl, rfl⟩; rw [HE.out])
        go_round
        case rel => exact ⟨k + 1, by omega, by go_num, by rw [HS.out, HE.out]; simp⟩
        case measure => simp [intOf]; omega
    · have : k = N := by omega
      subst this
      go_wp2
      go_ret
      exact ⟨rfl, rfl⟩

theorem ends_step (l n s : Int) (h : n < l) (hs : 0 < s) (hn : 1 ≤ n) : itemEnds l (n + s) s = itemEnds l n s := by
  unfold itemEnds
  rw [if_neg (by omega : ¬ (l < 1 ∨ n < 1 ∨ l < n)), if_neg (by omega : ¬ l = n), if_pos hs, if_pos hs]
  by_cases h1 : l < n + s
  · rw [if_pos (by omega)]
    symm
    rw [decide_eq_false_iff_not, Int.emod_eq_of_lt (by omega) (by omega)]
    omega
  · rw [if_neg (by omega)]
    have e : l - (n + s) = l - n - s := by omega
    by_cases h2 : l = n + s
    · rw [if_pos h2]
      symm
      rw [decide_eq_true_iff, show l - n = s by omega, Int.emod_self]
    · rw [if_neg h2, e, Int.sub_emod_right]

set_option maxHeartbeats 400000 in
theorem ref_ends (l p s : Int) (w : World) (h2 : l ≤ 1000000000) (hp2 : p ≤ 1000000000) (hs2 : s ≤ 1000000000) :
    Calls Tryz.prog 61 #[.int .i64 l, .int .i64 p, .int .i64 s] w fun e w' => e = .returned (.bool (itemEnds l p s)) ∧ w = w' := by
  by_cases hl : l < 1
  · go_enter Tryz.func61, Tryz.ntmps61
    go_wp2
    go_ret
    exact ⟨ret_bool (by unfold itemEnds; rw [if_pos (by omega)]), rfl⟩
  by_cases hp : p < 1
  · go_enter Tryz.func61, Tryz.ntmps61
    go_wp2
    go_ret
    exact ⟨ret_bool (by unfold itemEnds; rw [if_pos (by omega)]), rfl⟩
  have hl' : 1 ≤ l := by omega
  have hp' : 1 ≤ p := by omega
  clear hl hp
  go_enter Tryz.func61, Tryz.ntmps61
  go_wp2
  go_loop [7] (fun t => ∃ n : Int, 1 ≤ n ∧ n ≤ 2000000000 ∧ itemEnds l n s = itemEnds l p s ∧ t = .int .i64 n) (fun t => (l - intOf t).toNat)
  case atStart => exact ⟨p, hp', by omega, rfl, rfl⟩
  case round =>
    obtain ⟨n, hn1, hn2, he, rfl⟩ := hrel
    have HE := Lib.hid he
    clear he
    by_cases hc : n < l
    · by_cases hs : 0 < s
      · go_wp2
        go_round
        case rel => exact ⟨n + s, by omega, by omega, by rw [ends_step l n s hc hs hn1, HE.out], rfl⟩
        case measure => simp [intOf]; omega
      · go_wp2
        go_ret
        refine ⟨ret_bool ?_, rfl⟩
        rw [← HE.out]
        unfold itemEnds
        rw [if_neg (by omega), if_neg (by omega), if_neg (by omega)]
        simp; omega
    · go_wp2
      go_ret
      refine ⟨ret_bool ?_, rfl⟩
      rw [← HE.out]
      unfold itemEnds
      by_cases h : l < n
      · rw [if_pos (by omega)]; simp; omega
      · rw [if_neg (by omega), if_pos (by omega)]; simp; omega

theorem groups7 : groupsN 3 2 7 = 2 := by decide
set_option maxHeartbeats 400000 in
theorem law15_lives (w : World) : Calls Tryz.prog 17 #[] w fun e w' => e = .returned (.bool true) ∧ w = w' := by
  have c1 : ∀ w, Calls Tryz.prog 27 #[.int .i64 7, .int .i64 3, .int .i64 2] w fun e w' => e = .returned (.int .i64 2) ∧ w = w' := fun w => (item_groups 7 3 2 w (by decide) (by decide) (by decide)).mono fun e w' ⟨h, hw⟩ => ⟨by rw [h, groups7], hw⟩
  have c2 : ∀ w, Calls Tryz.prog 54 #[.int .i64 3, .int .i64 3, .int .i64 2] w fun e w' => e = .returned (.bool true) ∧ w = w' := fun w => (item_ends 3 3 2 w (by decide) (by decide) (by decide)).mono fun e w' ⟨h, hw⟩ => ⟨by rw [h]; rfl, hw⟩
  have c3 : ∀ w, Calls Tryz.prog 54 #[.int .i64 5, .int .i64 3, .int .i64 2] w fun e w' => e = .returned (.bool true) ∧ w = w' := fun w => (item_ends 5 3 2 w (by decide) (by decide) (by decide)).mono fun e w' ⟨h, hw⟩ => ⟨by rw [h]; rfl, hw⟩
  have c4 : ∀ w, Calls Tryz.prog 54 #[.int .i64 4, .int .i64 3, .int .i64 2] w fun e w' => e = .returned (.bool false) ∧ w = w' := fun w => (item_ends 4 3 2 w (by decide) (by decide) (by decide)).mono fun e w' ⟨h, hw⟩ => ⟨by rw [h]; rfl, hw⟩
  have C1 := Lib.hid c1
  have C2 := Lib.hid c2
  have C3 := Lib.hid c3
  have C4 := Lib.hid c4
  clear c1 c2 c3 c4
  go_enter Tryz.func17, Tryz.ntmps17
  go_wp2_with fail
  refine (C1.out _).mono ?_; rintro e w' ⟨rfl, rfl⟩
  go_wp2_with fail
  refine (C2.out _).mono ?_; rintro e w' ⟨rfl, rfl⟩
  go_wp2_with fail
  refine (C3.out _).mono ?_; rintro e w' ⟨rfl, rfl⟩
  go_wp2_with fail
  refine (C4.out _).mono ?_; rintro e w' ⟨rfl, rfl⟩
  go_wp2_with fail
  go_ret
  exact ⟨rfl, rfl⟩

def law15EndsHelp : Unit := ()
end Go.Proofs.YthoicieckodneaaGreatDoor.Ends
