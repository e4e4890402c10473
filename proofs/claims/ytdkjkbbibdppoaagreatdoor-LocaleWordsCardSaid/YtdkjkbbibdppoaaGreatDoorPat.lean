/- Patterns of numbers: what a character is; a text's pieces. Definitions, and the walks of must and kind. -/
import Derived.Test.YtdkjkbbibdppoaaGreatDoorAll
import Derived.Test.YtdkjkbbibdppoaaGreatDoorShelf
import Derived.Test.YtdkjkbbibdppoaaGreatDoorBox
namespace Go.Proofs.YtdkjkbbibdppoaaGreatDoor.Pat
open Go.RowKit Utf
set_option linter.unusedVariables false
set_option linter.unusedSimpArgs false

/-- a piece: its kind, its text -/
abbrev Pc := Int × List UInt8
def pcV (p : Pc) : List Value := [.int .i64 p.1, .string ⟨p.2.toArray⟩]
def pcsV (l : List Pc) : List Value := l.flatMap pcV
theorem pcsV_nil : pcsV [] = [] := rfl
theorem pcsV_app (l m : List Pc) : pcsV (l ++ m) = pcsV l ++ pcsV m := List.flatMap_append
theorem pcsV_len (l : List Pc) : (pcsV l).length = 2 * l.length := by
  induction l with
  | nil => rfl
  | cons p l ih => simp [pcsV, pcV] at ih ⊢; omega
theorem pcsV_one (p : Pc) : pcsV [p] = [.int .i64 p.1, .string ⟨p.2.toArray⟩] := rfl

/-- what a character is outside a quotation -/
def kindL (c : Int) : Int := if c = 164 then 1 else if c = 37 then 2 else if c = 45 then 3 else if c = 59 then 5 else if c = 35 ∨ c = 48 ∨ c = 44 ∨ c = 46 then 4 else if (49 ≤ c ∧ c ≤ 57) ∨ c = 64 ∨ c = 42 ∨ c = 43 ∨ c = 69 then -1 else 0
theorem kindL_bd (c : Int) : -1 ≤ kindL c ∧ kindL c ≤ 5 := by unfold kindL; (repeat' split) <;> omega

abbrev refused : Ending := .panicked [{ v := .iface 92 (.int .i64 2), recovered := false }]
theorem must_ok (w : World) : Calls Tryz.prog 50 #[.bool true] w fun e w' => e = .returned (.tuple #[]) ∧ w = w' := by
  go_enter Tryz.func50, Tryz.ntmps50
  go_wp2
  go_end0
  exact ⟨rfl, rfl⟩
theorem must_no (w : World) : Calls Tryz.prog 50 #[.bool false] w fun e w' => e = refused ∧ w = w' := by
  go_enter Tryz.func50, Tryz.ntmps50
  go_wp2
  exact ⟨rfl, rfl, rfl⟩
theorem must_any (b : Bool) (w : World) : Calls Tryz.prog 50 #[.bool b] w fun e w' => e = (if b then .returned (.tuple #[]) else refused) ∧ w = w' := by
  cases b
  · exact must_no w
  · exact must_ok w

theorem signs_of : ∀ n : Fin 128, (decide ((0 : Int) ≤ Lib.indexByte [35, 48, 44, 46] (UInt8.ofNat n.val))) = decide (n.val = 35 ∨ n.val = 48 ∨ n.val = 44 ∨ n.val = 46) := by decide +kernel
theorem wrong_of : ∀ n : Fin 128, (decide ((0 : Int) ≤ Lib.indexByte [49, 50, 51, 52, 53, 54, 55, 56, 57, 64, 42, 43, 69] (UInt8.ofNat n.val))) = decide ((49 ≤ n.val ∧ n.val ≤ 57) ∨ n.val = 64 ∨ n.val = 42 ∨ n.val = 43 ∨ n.val = 69) := by decide +kernel
set_option maxRecDepth 100000 in
set_option maxHeartbeats 1000000 in
theorem kind_ (c : Int) (w : World) (h0 : 0 ≤ c) (h1 : c ≤ 1114111) : Calls Tryz.prog 93 #[.int .i64 c] w fun e w' => e = .returned (.int .i64 (kindL c)) ∧ w = w' := by
  by_cases e1 : c = 164
  · subst e1; go_enter Tryz.func93, Tryz.ntmps93; go_wp2; go_ret; exact ⟨rfl, rfl⟩
  by_cases e2 : c = 37
  · subst e2; go_enter Tryz.func93, Tryz.ntmps93; go_wp2; go_ret; exact ⟨rfl, rfl⟩
  by_cases e3 : c = 45
  · subst e3; go_enter Tryz.func93, Tryz.ntmps93; go_wp2; go_ret; exact ⟨rfl, rfl⟩
  by_cases e4 : c = 59
  · subst e4; go_enter Tryz.func93, Tryz.ntmps93; go_wp2; go_ret; exact ⟨rfl, rfl⟩
  have b1 : (c == 164) = false := by simpa using e1
  have b2 : (c == 37) = false := by simpa using e2
  have b3 : (c == 45) = false := by simpa using e3
  have b4 : (c == 59) = false := by simpa using e4
  by_cases hc : c < 128
  · obtain ⟨n, rfl⟩ := Int.eq_ofNat_of_zero_le h0
    have hs := signs_of ⟨n, by omega⟩
    have hw := wrong_of ⟨n, by omega⟩
    simp only at hs hw
    have hu : (n : Int).toNat = n := rfl
    have hwr : IntKind.u8.wrap (n : Int) = n := by rw [IntKind.wrap_u8]; omega
    by_cases s1 : n = 35 ∨ n = 48 ∨ n = 44 ∨ n = 46
    · rw [decide_eq_true s1, decide_eq_true_iff] at hs
      have HK : Hid (kindL n = 4) := Lib.hid (by unfold kindL; rw [if_neg e1, if_neg e2, if_neg e3, if_neg e4, if_pos (by omega)])
      have HS := Lib.hid hs
      clear hw hs s1
      go_enter Tryz.func93, Tryz.ntmps93
      go_wp2_with fail
      refine (Tryz.strings_IndexByte _ _ _).mono ?_; rintro e w' ⟨rfl, rfl⟩
      have hs' := HS.out
      go_wp2
      go_ret
      exact ⟨by rw [HK.out]; rfl, rfl⟩
    · rw [decide_eq_false s1, decide_eq_false_iff_not] at hs
      have HS := Lib.hid (eq_false hs)
      by_cases s2 : (49 ≤ n ∧ n ≤ 57) ∨ n = 64 ∨ n = 42 ∨ n = 43 ∨ n = 69
      · rw [decide_eq_true s2, decide_eq_true_iff] at hw
        have HK : Hid (kindL n = -1) := Lib.hid (by unfold kindL; rw [if_neg e1, if_neg e2, if_neg e3, if_neg e4, if_neg (by omega), if_pos (by omega)])
        have HW := Lib.hid hw
        clear hw hs s1 s2
        go_enter Tryz.func93, Tryz.ntmps93
        go_wp2_with fail
        refine (Tryz.strings_IndexByte _ _ _).mono ?_; rintro e w' ⟨rfl, rfl⟩
        have hs' := HS.out
        go_wp2_with fail
        refine (Tryz.strings_IndexByte _ _ _).mono ?_; rintro e w' ⟨rfl, rfl⟩
        have hw' := HW.out
        go_wp2
        go_ret
        exact ⟨by rw [HK.out]; rfl, rfl⟩
      · rw [decide_eq_false s2, decide_eq_false_iff_not] at hw
        have HK : Hid (kindL n = 0) := Lib.hid (by unfold kindL; rw [if_neg e1, if_neg e2, if_neg e3, if_neg e4, if_neg (by omega), if_neg (by omega)])
        have HW := Lib.hid (eq_false hw)
        clear hw hs s1 s2
        go_enter Tryz.func93, Tryz.ntmps93
        go_wp2_with fail
        refine (Tryz.strings_IndexByte _ _ _).mono ?_; rintro e w' ⟨rfl, rfl⟩
        have hs' := HS.out
        go_wp2_with fail
        refine (Tryz.strings_IndexByte _ _ _).mono ?_; rintro e w' ⟨rfl, rfl⟩
        have hw' := HW.out
        go_wp2
        go_ret
        exact ⟨by rw [HK.out]; rfl, rfl⟩
  · have HK : Hid (kindL c = 0) := Lib.hid (by unfold kindL; rw [if_neg e1, if_neg e2, if_neg e3, if_neg e4, if_neg (by omega), if_neg (by omega)])
    go_enter Tryz.func93, Tryz.ntmps93
    go_wp2
    go_ret
    exact ⟨by rw [HK.out]; rfl, rfl⟩

/-- a text's characters, each a piece: quoted?, a quote just read? -/
def tokS : Bool → Bool → List Int → Option (List Pc)
  | q, true, [] => if q then some [] else none
  | q, false, [] => if q then none else some []
  | q, true, c :: r => if c = 39 then (tokS q false r).map ((0, encB 39) :: ·) else if q then (if kindL c < 0 then none else (tokS false false r).map ((kindL c, encB c) :: ·)) else (tokS true false r).map ((0, encB c) :: ·)
  | q, false, c :: r => if c = 39 then tokS q true r else if q then (tokS true false r).map ((0, encB c) :: ·) else if kindL c < 0 then none else (tokS false false r).map ((kindL c, encB c) :: ·)
theorem tokS_quote (q : Bool) (r : List Int) : tokS q false (39 :: r) = tokS q true r := by rw [tokS, if_pos rfl]
theorem tokS_toggle (q : Bool) (r : List Int) (h : ∀ c r', r = c :: r' → c ≠ 39) : tokS q true r = tokS (!q) false r := by
  cases r with
  | nil => cases q <;> rfl
  | cons c r' =>
    have := h c r' rfl
    rw [tokS, tokS, if_neg this, if_neg this]
    cases q <;> rfl
def tokF (xs : List Int) : Option (List Pc) := tokS false false xs
def tokL (s : List UInt8) : Option (List Pc) := tokF (All.charsL s)
end Go.Proofs.YtdkjkbbibdppoaaGreatDoor.Pat
