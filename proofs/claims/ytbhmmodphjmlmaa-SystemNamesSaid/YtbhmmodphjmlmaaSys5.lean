/- Walk: the law SystemDigits. -/
import Derived.Test.YtbhmmodphjmlmaaSys4
namespace Go.Proofs.Ytbhmmodphjmlmaa.Sys
open Go.RowKit Utf Small Build
set_option linter.unusedVariables false
set_option linter.unusedSimpArgs false

theorem digE_name (n d : Int) : (0 ≤ zeroZ (nameOf n) ∧ zeroZ (nameOf n) ≤ 120812) ∧ ((0 ≤ d ∧ d ≤ 9 → digE (nameOf n) d = 0 ∧ digB (nameOf n) d = encB (zeroZ (nameOf n) + d)) ∧ (d < 0 ∨ 9 < d → digE (nameOf n) d = 3 ∧ digB (nameOf n) d = [])) := by
  obtain ⟨j, hj, e1, e2⟩ := nameOf_form n
  have hp : 0 ≤ zeroZ (nameOf n) := by rw [e2]; exact zerosL_pos ⟨j, hj⟩
  refine ⟨⟨hp, (zeroZ_bd _).2⟩, fun h => ?_, fun h => ?_⟩
  · have : digE (nameOf n) d = 0 := by unfold digE; rw [if_neg (by omega), if_neg (by omega)]
    exact ⟨this, by unfold digB; rw [this, if_pos rfl]⟩
  · have : digE (nameOf n) d = 3 := by unfold digE; rw [if_neg (by omega), if_pos (by omega)]
    exact ⟨this, by unfold digB; rw [this]; rfl⟩
theorem val_cases (s : ByteArray) (c : Int) (h : 0 ≤ zeroZ s) : (valE s c = 0 ∧ 0 ≤ valZ (zeroZ s) c) ∨ (valE s c = 2 ∧ valZ (zeroZ s) c = -1) := by
  unfold valE
  rw [if_neg (by omega)]
  by_cases h1 : c < zeroZ s ∨ zeroZ s + 10 ≤ c
  · exact .inr ⟨if_pos h1, valZ_out (by omega)⟩
  · exact .inl ⟨if_neg h1, by rw [valZ_in h (by omega) (by omega)]; omega⟩
theorem err_cases (s : ByteArray) (d c : Int) : (0 ≤ zeroZ s ∧ digE s d ≠ 7 ∧ valE s c ≠ 7) ∨ (zeroZ s < 0 ∧ digE s d = 7 ∧ valE s c = 7) := by
  unfold digE valE
  by_cases h : zeroZ s < 0
  · exact .inr ⟨h, if_pos h, if_pos h⟩
  · refine .inl ⟨by omega, ?_, ?_⟩
    · rw [if_neg h]; split <;> omega
    · rw [if_neg h]; split <;> omega

set_option maxHeartbeats 4000000 in
set_option maxRecDepth 100000 in
theorem law09_SystemDigits (n d c : Int) (s : ByteArray) (w : World) (n1 : -9223372036854775808 ≤ n) (n2 : n ≤ 9223372036854775807) (d1 : -9223372036854775808 ≤ d) (d2 : d ≤ 9223372036854775807)
    (c1 : -9223372036854775808 ≤ c) (c2 : c ≤ 9223372036854775807) (hs : s.size ≤ maxLen) :
    Calls Try.prog 5 #[.int .i64 n, .int .i64 d, .int .i64 c, .string s] w fun e w' => e = .returned (.bool true) ∧ Ext w w' := by
  have hk := aroundF_bd d 10 (by omega)
  have hq := aroundF_bd c 14 (by omega)
  obtain ⟨hz, HK⟩ := digE_name n (aroundF d 10)
  obtain ⟨_, HD⟩ := digE_name n d
  have HK0 := Lib.hid (HK.1 (by omega))
  have HVC : Hid (∀ x, (valE (nameOf n) x = 0 ∧ 0 ≤ valZ (zeroZ (nameOf n)) x) ∨ (valE (nameOf n) x = 2 ∧ valZ (zeroZ (nameOf n)) x = -1)) := Lib.hid fun x => val_cases (nameOf n) x hz.1
  have HD' := Lib.hid HD
  have HEC : Hid ((0 ≤ zeroZ (fewB s 12) ∧ digE (fewB s 12) d ≠ 7 ∧ valE (fewB s 12) c ≠ 7) ∨ (zeroZ (fewB s 12) < 0 ∧ digE (fewB s 12) d = 7 ∧ valE (fewB s 12) c = 7)) := Lib.hid (err_cases _ d c)
  clear HK HD
  go_enter Try.func5, Try.ntmps5
  go_wp2_with fail
  refine (few _ 12 _ hs (by decide)).mono ?_; rintro e w1 ⟨rfl, rfl⟩
  generalize fewB s 12 = t at *
  go_wp2_with fail
  refine (ref_name _ _ n1 n2).mono ?_; rintro e w1 ⟨rfl, hx1⟩
  go_wp2_with fail
  refine (around _ _ _ d1 d2 (by omega) (by omega)).mono ?_; rintro e w2 ⟨rfl, rfl⟩
  go_wp2_with fail
  refine (sys_digit _ _ _).mono ?_; rintro e w2 ⟨rfl, hx2⟩
  rw [HK0.out.1, HK0.out.2]
  go_wp2_with fail
  refine (sys_digit _ _ _).mono ?_; rintro e w3 ⟨rfl, hx3⟩
  obtain ⟨in_, er, bs, HIN, HE, HB, hin⟩ : ∃ (in_ : Bool) (er : Int) (bs : List UInt8), Hid (decide (0 ≤ d ∧ d ≤ 9) = in_) ∧ Hid (digE (nameOf n) d = er) ∧ Hid (digB (nameOf n) d = bs) ∧ ((in_ = true ∧ er = 0) ∨ (in_ = false ∧ er = 3 ∧ bs = [])) := by
    by_cases h : 0 ≤ d ∧ d ≤ 9
    · exact ⟨_, _, _, Lib.hid rfl, Lib.hid rfl, Lib.hid rfl, .inl ⟨by simpa using h, (HD'.out.1 h).1⟩⟩
    · have := HD'.out.2 (by omega)
      exact ⟨_, _, _, Lib.hid rfl, Lib.hid rfl, Lib.hid rfl, .inr ⟨by simpa using h, this.1, this.2⟩⟩
  rw [HE.out, HB.out]
  generalize hnm : nameOf n = nm at *
  generalize hzz : zeroZ nm = z at *
  generalize aroundF d 10 = k at *
  have HZZ := Lib.hid hzz
  clear hnm hzz
  have hki : 0 ≤ k ∧ k ≤ 9 := by omega
  clear HE HB HK0
  have hds : (in_ = true ∧ er = 0 ∧ 0 ≤ d ∧ d ≤ 9) ∨ (in_ = false ∧ er = 3 ∧ bs = [] ∧ d < 0) ∨ (in_ = false ∧ er = 3 ∧ bs = [] ∧ 0 ≤ d ∧ 9 < d) := by
    have hh := HIN.out
    rcases hin with ⟨rfl, h⟩ | ⟨rfl, h1, h2⟩
    · simp at hh; exact .inl ⟨rfl, h, by omega, by omega⟩
    · simp at hh
      by_cases hd : d < 0
      · exact .inr (.inl ⟨rfl, h1, h2, hd⟩)
      · exact .inr (.inr ⟨rfl, h1, h2, by omega, by omega⟩)
  clear hin HIN
  rcases hds with ⟨rfl, rfl, hd0, hd9⟩ | ⟨rfl, rfl, rfl, hd0⟩ | ⟨rfl, rfl, rfl, hd0, hd9⟩
  all_goals
    go_wp2_with fail
    refine (ref_digit _ _ _ hki.1 hki.2).mono ?_; rintro e w4 ⟨rfl, hx4⟩
    rw [HZZ.out]
    generalize encB (z + k) = ek at *
    go_wp2_with fail
    refine (ref_zero _ _).mono ?_; rintro e w5 ⟨rfl, hx5⟩
    rw [HZZ.out]
    go_wp2_with fail
    refine (around _ _ _ c1 c2 (by omega) (by omega)).mono ?_; rintro e w6 ⟨rfl, rfl⟩
    generalize aroundF c 14 = q at *
    have hrow : Row (w5.alloc (.cells #[.int .i64 c, .int .i64 (z - 2 + q)] 3)) (some ⟨w5.heap.size, 0, none⟩) ([c, z - 2 + q].map (Value.int .i64)) := row_new w5 ([c, z - 2 + q].map (Value.int .i64)) 3
    have hx6 : Ext w5 (w5.alloc (.cells #[.int .i64 c, .int .i64 (z - 2 + q)] 3)) := (Below.refl _ _).alloc (Nat.le_refl _) _
    go_wp2
    generalize w5.alloc (.cells #[.int .i64 c, .int .i64 (z - 2 + q)] 3) = w6 at *
    generalize hxs : [c, z - 2 + q] = xs at *
    have HN : Hid (xs.length = 2) := Lib.hid (by rw [← hxs]; rfl)
    clear hxs
    generalize w5.heap.size = b at *
    go_loopw [17] (fun i wr => ∃ k : Nat, k ≤ 2 ∧ i = .int .i64 k ∧ Ext w6 wr) (fun i _ => 2 - (intOf i).toNat)
    case atStart => exact ⟨0, Nat.zero_le _, rfl, Ext.refl _⟩
    case round =>
      obtain ⟨j, hj, rfl, hxr⟩ := hrel
      by_cases hlt : j < 2
      · have hj' : j < xs.length := by rw [HN.out]; exact hlt
        have hc := (hrow.below hxr (Nat.le_refl _)).cell00 (k := j) (v := .int .i64 xs[j]) (by simp [hj'])
        generalize xs[j] = x at *
        go_wp2_with fail
        refine (sys_value _ _ _).mono ?_; rintro e w7 ⟨rfl, hx7⟩
        rw [HZZ.out]
        have hc7 := Ext.cell_ hx7 hc
        have HV := HVC.out x
        generalize valE nm x = ve at *
        generalize hvz : valZ z x = vz at *
        have HVZ := Lib.hid hvz
        clear hvz
        rcases HV with ⟨rfl, hv⟩ | ⟨rfl, rfl⟩
        all_goals
          go_wp2_with fail
          refine (ref_value _ _ _).mono ?_; rintro e w8 ⟨rfl, hx8⟩
          rw [HZZ.out, HVZ.out]
          go_wp2
          go_roundw
          case rel => exact ⟨j + 1, by omega, by go_num, (hxr.trans hx7).trans hx8⟩
          case measure => simp [intOf]; omega
      · have e : j = 2 := by omega
        subst e
        have HE := HEC.out
        have hxw : Ext w wr := (((((hx1.trans hx2).trans hx3).trans hx4).trans hx5).trans hx6).trans hxr
        clear hx1 hx2 hx3 hx4 hx5 hx6 hxr HVC HD' hrow
        generalize hzt : zeroZ t = zt at *
        generalize hde : digE t d = de at *
        generalize hve : valE t c = ve at *
        have HZT := Lib.hid hzt
        have HDE := Lib.hid hde
        have HVE := Lib.hid hve
        clear hzt hde hve HEC
        rcases HE with ⟨hzt0, hde7, hve7⟩ | ⟨hzt0, rfl, rfl⟩
        · have b1 : (de == 7) = false := by simpa using hde7
          have b2 : (ve == 7) = false := by simpa using hve7
          clear hde7 hve7
          go_wp2_with fail
          refine (ref_zero _ _).mono ?_; rintro e w7 ⟨rfl, hx7⟩
          rw [HZT.out]
          go_wp2_with fail
          refine (sys_digit _ _ _).mono ?_; rintro e w8 ⟨rfl, hx8⟩
          rw [HDE.out]
          go_wp2_with fail
          refine (sys_value _ _ _).mono ?_; rintro e w9 ⟨rfl, hx9⟩
          rw [HVE.out]
          go_wp2_with fail
          refine (law09_lives _).mono ?_; rintro e w10 ⟨rfl, hx10⟩
          go_wp2
          go_ret
          exact ⟨rfl, (((hxw.trans hx7).trans hx8).trans hx9).trans hx10⟩
        · go_wp2_with fail
          refine (ref_zero _ _).mono ?_; rintro e w7 ⟨rfl, hx7⟩
          rw [HZT.out]
          go_wp2_with fail
          refine (sys_digit _ _ _).mono ?_; rintro e w8 ⟨rfl, hx8⟩
          rw [HDE.out]
          go_wp2_with fail
          refine (sys_value _ _ _).mono ?_; rintro e w9 ⟨rfl, hx9⟩
          rw [HVE.out]
          go_wp2_with fail
          refine (law09_lives _).mono ?_; rintro e w10 ⟨rfl, hx10⟩
          go_wp2
          go_ret
          exact ⟨ret_bool (by simp; omega), (((hxw.trans hx7).trans hx8).trans hx9).trans hx10⟩
end Go.Proofs.Ytbhmmodphjmlmaa.Sys
