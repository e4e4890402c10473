/- Walk: the law SystemNames. -/
import Derived.Test.YtbhmmodphjmlmaaSys10
import Derived.Test.YtbhmmodphjmlmaaTexts
namespace Go.Proofs.Ytbhmmodphjmlmaa.Sys
open Go.RowKit Utf Small Build All Dec
set_option linter.unusedVariables false
set_option linter.unusedSimpArgs false

theorem same_names (A B : Option Addr) (c d : Nat) (w : World) (hx : Row w A (names.map Value.string)) (hy : Row w B (names.map Value.string)) :
    Calls Try.prog 45 #[.slice A 20 c, .slice B 20 d] w fun e w' => e = .returned (.bool true) ∧ Ext w w' := by
  have h := same_texts A B c d names names w hx hy (by decide) (by decide)
  rw [show decide (names = names) = true by simp] at h
  exact h
set_option maxHeartbeats 1000000 in
set_option maxRecDepth 100000 in
theorem law09_SystemNames (n : Int) (s : ByteArray) (w : World) (n1 : -9223372036854775808 ≤ n) (n2 : n ≤ 9223372036854775807) (hs : s.size ≤ maxLen) :
    Calls Try.prog 12 #[.int .i64 n, .string s] w fun e w' => e = .returned (.bool true) ∧ Ext w w' := by
  have hz := name_pos n
  have hn : noneE (nameOf n) = 0 ∧ max (zeroZ (nameOf n)) 0 = zeroZ (nameOf n) := by
    rcases noneE_cases (nameOf n) with h | h
    · omega
    · exact ⟨h.2.2.1, h.2.2.2⟩
  have HZ : ∀ w, Calls Try.prog 44 #[.string (nameOf n)] w fun e w' => e = .returned (.tuple #[.int .i64 (zeroZ (nameOf n)), .int .i64 0]) ∧ Ext w w' := fun w => by
    have h := sys_zero (nameOf n) w
    rw [hn.1, hn.2] at h
    exact h
  have HZ' := Lib.hid HZ
  clear hn HZ
  have HC := Lib.hid (noneE_cases (fewB s 12))
  go_enter Try.func12, Try.ntmps12
  go_wp2_with fail
  refine (few _ 12 _ hs (by decide)).mono ?_; rintro e w1 ⟨rfl, rfl⟩
  generalize fewB s 12 = t at *
  go_wp2_with fail
  refine (ref_name _ _ n1 n2).mono ?_; rintro e w2 ⟨rfl, hx2⟩
  go_wp2_with fail
  refine (HZ'.out _).mono ?_; rintro e w3 ⟨rfl, hx3⟩
  generalize hnm : nameOf n = nm at *
  generalize hzz : zeroZ nm = z at *
  have HZZ := Lib.hid hzz
  clear hnm hzz HZ'
  go_wp2_with fail
  refine (sys_zero _ _).mono ?_; rintro e w4 ⟨rfl, hx4⟩
  go_wp2_with fail
  refine (ref_zero _ _).mono ?_; rintro e w5 ⟨rfl, hx5⟩
  obtain ⟨y, er, u, HY, HE, HU, hc⟩ : ∃ (y er u : Int), Hid (max (zeroZ t) 0 = y) ∧ Hid (noneE t = er) ∧ Hid (zeroZ t = u) ∧ ((u < 0 ∧ er = 7 ∧ y = max u 0) ∨ (0 ≤ u ∧ er = 0 ∧ y = max u 0)) := by
    refine ⟨_, _, _, Lib.hid rfl, Lib.hid rfl, Lib.hid rfl, ?_⟩
    rcases HC.out with h | h
    · exact .inl ⟨by omega, h.2.1, rfl⟩
    · exact .inr ⟨h.1, h.2.2.1, rfl⟩
  rw [HY.out, HE.out, HU.out]
  clear HC HY HE HU
  have hx := ((hx2.trans hx3).trans hx4).trans hx5
  clear hx2 hx3 hx4 hx5
  rcases hc with ⟨hu, rfl, rfl⟩ | ⟨hu, rfl, rfl⟩
  · go_wp2_with fail
    refine (sys_names _).mono ?_; rintro e w6 ⟨A6, c6, rfl, hr6, hx6⟩
    go_wp2_with fail
    refine (ref_names _).mono ?_; rintro e w7 ⟨A7, rfl, hr7, hx7⟩
    have hr6' := hr6.below hx7 (Nat.le_refl _)
    go_wp2_with fail
    refine (same_names _ _ _ _ _ hr6' hr7).mono ?_; rintro e w8 ⟨rfl, hx8⟩
    go_wp2_with fail
    refine (ref_zero _ _).mono ?_; rintro e w9 ⟨rfl, hx9⟩
    rw [HZZ.out]
    go_wp2_with fail
    refine (law09_lives _).mono ?_; rintro e w10 ⟨rfl, hx10⟩
    go_wp2
    go_ret
    exact ⟨ret_bool (by simp; omega), ((((hx.trans hx6).trans hx7).trans hx8).trans hx9).trans hx10⟩
  · go_wp2_with fail
    refine (sys_names _).mono ?_; rintro e w6 ⟨A6, c6, rfl, hr6, hx6⟩
    go_wp2_with fail
    refine (ref_names _).mono ?_; rintro e w7 ⟨A7, rfl, hr7, hx7⟩
    have hr6' := hr6.below hx7 (Nat.le_refl _)
    go_wp2_with fail
    refine (same_names _ _ _ _ _ hr6' hr7).mono ?_; rintro e w8 ⟨rfl, hx8⟩
    go_wp2_with fail
    refine (ref_zero _ _).mono ?_; rintro e w9 ⟨rfl, hx9⟩
    rw [HZZ.out]
    go_wp2_with fail
    refine (law09_lives _).mono ?_; rintro e w10 ⟨rfl, hx10⟩
    go_wp2
    go_ret
    exact ⟨rfl, ((((hx.trans hx6).trans hx7).trans hx8).trans hx9).trans hx10⟩
end Go.Proofs.Ytbhmmodphjmlmaa.Sys
