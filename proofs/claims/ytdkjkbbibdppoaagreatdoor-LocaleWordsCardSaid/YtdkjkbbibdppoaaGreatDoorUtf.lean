/- Walks: characters and their bytes. -/
import Derived.Test.YtdkjkbbibdppoaaGreatDoorBase
import Derived.Test.YtdkjkbbibdppoaaGreatDoorShelf
namespace Go.Proofs.YtdkjkbbibdppoaaGreatDoor.Utf
open Go.RowKit
set_option linter.unusedVariables false
set_option linter.unusedSimpArgs false

def mayC (c : Int) : Bool := decide (0 ≤ c ∧ c ≤ 1114111 ∧ (c < 55296 ∨ 57343 < c))

theorem beq_dec {a : Bool} {p : Prop} [Decidable p] (h : a = true ↔ p) : a = decide p := by rw [Bool.eq_iff_iff, h, decide_eq_true_iff]
set_option maxHeartbeats 400000 in
theorem ref_may (c : Int) (w : World) : Calls Tryz.prog 129 #[.int .i64 c] w fun e w' => e = .returned (.bool (mayC c)) ∧ w = w' := by
  go_enter Tryz.func129, Tryz.ntmps129
  go_wp2
  all_goals
    go_ret
    refine ⟨ret_bool ?_, rfl⟩
    unfold mayC
    refine beq_dec ?_
    simp
    try omega

theorem mayC_of {c : Int} (h0 : 0 ≤ c) (h1 : c ≤ 1114111) (h2 : c < 55296 ∨ 57343 < c) : mayC c = true := by unfold mayC; simp; omega

/-- a character's bytes -/
def encB (c : Int) : List UInt8 := if mayC c then Lib.encodeRune c else []
theorem encB_bad {c : Int} (h : mayC c = false) : encB c = [] := by unfold encB; rw [h]; rfl
theorem encB_of {c : Int} (h : mayC c = true) (ns : List Int) (hn : Lib.encodeRuneZ c = ns) : encB c = bytesZ ns := by
  unfold encB
  rw [h, if_pos rfl, Lib.encodeRune, hn]
  rfl

attribute [local go_sem] run_lit1 run_lit2 run_lit3 run_lit4
set_option maxHeartbeats 400000 in
set_option maxRecDepth 100000 in
theorem ref_encode (c : Int) (w : World) : Calls Tryz.prog 70 #[.int .i64 c] w fun e w' => e = .returned (.string ⟨(encB c).toArray⟩) ∧ Ext w w' := by
  cases hm : mayC c
  · have HF := Lib.hid (encB_bad hm)
    have HM := Lib.hid hm
    clear hm
    go_enter Tryz.func70, Tryz.ntmps70
    go_wp2_with fail
    refine (ref_may _ _).mono ?_; rintro e w' ⟨rfl, rfl⟩; rw [HM.out]
    go_wp2
    go_ret
    exact ⟨by rw [HF.out]; rfl, Ext.refl _⟩
  · have hb : 0 ≤ c ∧ c ≤ 1114111 ∧ (c < 55296 ∨ 57343 < c) := by unfold mayC at hm; simpa using hm
    obtain ⟨h0, h1, h2⟩ := hb
    by_cases c1 : c < 128
    · have HF := Lib.hid (encB_of hm _ (Lib.encodeRuneZ_one h0 (by omega)))
      have HM := Lib.hid hm
      clear hm h1 h2
      go_enter Tryz.func70, Tryz.ntmps70
      go_wp2_with fail
      refine (ref_may _ _).mono ?_; rintro e w' ⟨rfl, rfl⟩; rw [HM.out]
      go_wp2
      go_ret
      exact ⟨by rw [HF.out]; rfl, (Ext.refl _).alloc (Nat.le_refl _) _⟩
    by_cases c2 : c < 2048
    · have HF := Lib.hid (encB_of hm _ (Lib.encodeRuneZ_two (by omega) (by omega)))
      have HM := Lib.hid hm
      clear hm h1 h2
      go_enter Tryz.func70, Tryz.ntmps70
      go_wp2_with fail
      refine (ref_may _ _).mono ?_; rintro e w' ⟨rfl, rfl⟩; rw [HM.out]
      go_wp2
      go_ret
      exact ⟨by rw [HF.out]; rfl, (Ext.refl _).alloc (Nat.le_refl _) _⟩
    by_cases c3 : c < 65536
    · have HF := Lib.hid (encB_of hm _ (Lib.encodeRuneZ_three (by omega)))
      have HM := Lib.hid hm
      clear hm h1 h2
      go_enter Tryz.func70, Tryz.ntmps70
      go_wp2_with fail
      refine (ref_may _ _).mono ?_; rintro e w' ⟨rfl, rfl⟩; rw [HM.out]
      go_wp2
      go_ret
      exact ⟨by rw [HF.out]; rfl, (Ext.refl _).alloc (Nat.le_refl _) _⟩
    · have HF := Lib.hid (encB_of hm _ (Lib.encodeRuneZ_four (by omega) h1))
      have HM := Lib.hid hm
      clear hm h2
      go_enter Tryz.func70, Tryz.ntmps70
      go_wp2_with fail
      refine (ref_may _ _).mono ?_; rintro e w' ⟨rfl, rfl⟩; rw [HM.out]
      go_wp2
      go_ret
      exact ⟨by rw [HF.out]; rfl, (Ext.refl _).alloc (Nat.le_refl _) _⟩

set_option maxHeartbeats 400000 in
set_option maxRecDepth 100000 in
theorem utf_may (c : Int) (w : World) : Calls Tryz.prog 144 #[.int .i64 c] w fun e w' => e = .returned (.bool (mayC c)) ∧ w = w' := by
  by_cases h0 : 0 ≤ c
  · by_cases h1 : c ≤ 1114111
    · have hv : Lib.validRune c = mayC c := by
        rw [Bool.eq_iff_iff]; unfold Lib.validRune mayC; simp; omega
      have HV := Lib.hid hv
      clear hv
      go_enter Tryz.func144, Tryz.ntmps144
      go_wp2_with fail
      refine (Tryz.utf8_ValidRune _ _).mono ?_; rintro e w' ⟨rfl, rfl⟩; rw [HV.out]
      go_wp2
      go_ret
      exact ⟨rfl, rfl⟩
    · have hm : mayC c = false := by unfold mayC; simp; omega
      have HM := Lib.hid hm
      clear hm
      go_enter Tryz.func144, Tryz.ntmps144
      go_wp2
      go_ret
      exact ⟨by rw [HM.out]; rfl, rfl⟩
  · have hm : mayC c = false := by unfold mayC; simp; omega
    have HM := Lib.hid hm
    clear hm
    go_enter Tryz.func144, Tryz.ntmps144
    go_wp2
    go_ret
    exact ⟨by rw [HM.out]; rfl, rfl⟩

set_option maxHeartbeats 400000 in
set_option maxRecDepth 100000 in
theorem utf_encode (c : Int) (w : World) : Calls Tryz.prog 92 #[.int .i64 c] w fun e w' => e = .returned (.string ⟨(encB c).toArray⟩) ∧ Ext w w' := by
  cases hm : mayC c
  · have HF := Lib.hid (encB_bad hm)
    have HM := Lib.hid hm
    clear hm
    go_enter Tryz.func92, Tryz.ntmps92
    go_wp2_with fail
    refine (utf_may _ _).mono ?_; rintro e w' ⟨rfl, rfl⟩; rw [HM.out]
    go_wp2
    go_ret
    exact ⟨by rw [HF.out]; rfl, Ext.refl _⟩
  · have hb : 0 ≤ c ∧ c ≤ 1114111 ∧ (c < 55296 ∨ 57343 < c) := by unfold mayC at hm; simpa using hm
    obtain ⟨h0, h1, h2⟩ := hb
    have HF := Lib.hid (encB_of hm _ rfl)
    have HM := Lib.hid hm
    clear hm h2
    go_enter Tryz.func92, Tryz.ntmps92
    go_wp2_with fail
    refine (utf_may _ _).mono ?_; rintro e w' ⟨rfl, rfl⟩; rw [HM.out]
    go_wp2_with fail
    refine (Tryz.utf8_AppendRune_plain w.heap.size (.slice none 0 0) 0 [] c (by omega) (by omega) _ (World.ownsRow_nil _ _ _ _) (by omega) (Nat.le_refl _)).mono ?_
    rintro e w1 ⟨v, rfl, hown, o, hg⟩
    obtain ⟨A, cp, rfl, hrow⟩ : ∃ A cp, v = .slice A (Lib.encodeRuneZ c).length cp ∧ Row w1 A ((Lib.encodeRuneZ c).map (Value.int .u8)) := by
      have hl : 0 + (Lib.runeCells c).length = (Lib.encodeRuneZ c).length := by simp [Lib.runeCells]
      rw [hl] at hown
      rcases hown.2 with ⟨hv, hz⟩ | ⟨g, cap, cur, hv, _⟩
      · have := (Lib.encodeRuneZ_length c).1; omega
      · exact ⟨_, _, hv, Row.of_own (hv ▸ hown)⟩
    have hstr := run_bytes_str w1 A cp _ hrow
    have hb : Ext w w1 := ((Below.refl _ _).alloc (Nat.le_refl _) o).grown hg (by simp) (by simp [Value.ownBlock])
    go_wp2
    go_ret
    exact ⟨by rw [HF.out]; rfl, hb⟩
end Go.Proofs.YtdkjkbbibdppoaaGreatDoor.Utf
