/- Walks: the text between two stops. -/
import Derived.Test.YthoicieckodneaaGreatDoorVwW3
namespace Go.Proofs.YthoicieckodneaaGreatDoor.Loc
open Go.RowKit Utf All Small Strs Build EncC Pat Cls Dec Go.Proofs.YthoicieckodneaaGreatDoor.Sys
set_option linter.unusedVariables false
set_option linter.unusedSimpArgs false

section
variable {vb : Nat} {E : Option Addr} {cE : Nat} {F : Option Addr} {cF : Nat} {L : List It} {S : List Nat} {w : World}
set_option maxHeartbeats 4000000 in
set_option maxRecDepth 100000 in
theorem view_slice_in (h : VwR w vb E cE F cF L S) (i j : Nat) (hij : i ≤ j) (hj : j < S.length) (hl : S.length ≤ 100000) (hle : S.getD i 0 ≤ S.getD j 0) (hlt : S.getD j 0 ≤ (textI L).length) : Calls Tryz.prog 39 #[.pointer (some ⟨vb, 0, none⟩), .int .i64 (i : Int), .int .i64 (j : Int)] w fun e w' => e = .returned (.tuple #[.string ((⟨(textI L).toArray⟩ : ByteArray).extract (S.getD i 0) (S.getD j 0)), .bool true]) ∧ w = w' := by
  have k1 := h.box.cell (j := 1) (v := .string ⟨(textI L).toArray⟩) rfl
  have HS1 : Hid (Calls Tryz.prog 32 #[.pointer (some ⟨vb, 0, none⟩), .int .i64 (i : Int)] w fun e w' => e = .returned (.tuple #[.int .i64 ((S.getD i 0 : Nat) : Int), .bool true]) ∧ w = w') := Lib.hid (by
    have hh := view_stop h (i : Int) ⟨by omega, by omega⟩
    have e1 : stopZ S (i : Int) = ((S.getD i 0 : Nat) : Int) := by unfold stopZ; rw [if_pos (by omega)]; rfl
    have e2 : inZ S (i : Int) = true := by unfold inZ; rw [decide_eq_true_iff]; omega
    rw [e1, e2] at hh
    exact hh)
  have HS2 : Hid (Calls Tryz.prog 32 #[.pointer (some ⟨vb, 0, none⟩), .int .i64 (j : Int)] w fun e w' => e = .returned (.tuple #[.int .i64 ((S.getD j 0 : Nat) : Int), .bool true]) ∧ w = w') := Lib.hid (by
    have hh := view_stop h (j : Int) ⟨by omega, by omega⟩
    have e1 : stopZ S (j : Int) = ((S.getD j 0 : Nat) : Int) := by unfold stopZ; rw [if_pos (by omega)]; rfl
    have e2 : inZ S (j : Int) = true := by unfold inZ; rw [decide_eq_true_iff]; omega
    rw [e1, e2] at hh
    exact hh)
  have hsz : (⟨(textI L).toArray⟩ : ByteArray).size = (textI L).length := rfl
  generalize S.getD i 0 = a at *
  generalize S.getD j 0 = b at *
  rw [← hsz] at hlt
  generalize (⟨(textI L).toArray⟩ : ByteArray) = s at *
  have i1 : ¬ ((i : Int) > (j : Int)) := by omega
  have i2 : (a : Int) ≤ (b : Int) := by omega
  have i3 : (b : Int) ≤ (s.size : Int) := by omega
  have i4 : (0 : Int) ≤ (a : Int) := by omega
  clear h hsz
  go_enter Tryz.func39, Tryz.ntmps39
  go_wp2_with (first
    | (go_at_call 32; with_reducible refine HS1.out.mono ?_; rintro e w5 ⟨rfl, rfl⟩)
    | (go_at_call 32; with_reducible refine HS2.out.mono ?_; rintro e w5 ⟨rfl, rfl⟩))
  go_ret2
  exact ⟨rfl, rfl⟩
set_option maxHeartbeats 4000000 in
set_option maxRecDepth 100000 in
theorem view_slice_out (h : VwR w vb E cE F cF L S) (i j : Int) (hi : i64 i) (hj : i64 j) (hno : ¬ (0 ≤ i ∧ i ≤ j ∧ j < S.length)) : Calls Tryz.prog 39 #[.pointer (some ⟨vb, 0, none⟩), .int .i64 i, .int .i64 j] w fun e w' => e = .returned (.tuple #[.string ⟨#[]⟩, .bool false]) ∧ w = w' := by
  have HS1 := Lib.hid (view_stop h i hi)
  have HS2 := Lib.hid (view_stop h j hj)
  have hc : inZ S i = true → inZ S j = true → i > j := by
    unfold inZ
    rw [decide_eq_true_iff, decide_eq_true_iff]
    omega
  generalize stopZ S i = a at *
  generalize stopZ S j = b at *
  generalize inZ S i = p at *
  generalize inZ S j = q at *
  clear h hno hi hj
  cases p
  · go_enter Tryz.func39, Tryz.ntmps39
    go_wp2_with (first
      | (go_at_call 32; with_reducible refine HS1.out.mono ?_; rintro e w5 ⟨rfl, rfl⟩)
      | (go_at_call 32; with_reducible refine HS2.out.mono ?_; rintro e w5 ⟨rfl, rfl⟩))
    go_ret2
    exact ⟨rfl, rfl⟩
  · cases q
    · go_enter Tryz.func39, Tryz.ntmps39
      go_wp2_with (first
        | (go_at_call 32; with_reducible refine HS1.out.mono ?_; rintro e w5 ⟨rfl, rfl⟩)
        | (go_at_call 32; with_reducible refine HS2.out.mono ?_; rintro e w5 ⟨rfl, rfl⟩))
      go_ret2
      exact ⟨rfl, rfl⟩
    · have hij : i > j := hc rfl rfl
      go_enter Tryz.func39, Tryz.ntmps39
      go_wp2_with (first
        | (go_at_call 32; with_reducible refine HS1.out.mono ?_; rintro e w5 ⟨rfl, rfl⟩)
        | (go_at_call 32; with_reducible refine HS2.out.mono ?_; rintro e w5 ⟨rfl, rfl⟩))
      go_ret2
      exact ⟨rfl, rfl⟩
end
end Go.Proofs.YthoicieckodneaaGreatDoor.Loc
