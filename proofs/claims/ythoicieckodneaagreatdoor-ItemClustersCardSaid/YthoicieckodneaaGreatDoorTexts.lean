/- Walk: whether two rows of texts are the same (abacistref03.SameTexts). -/
import Derived.Test.YthoicieckodneaaGreatDoorJBase
import Derived.Deep.DeepCutAuto
namespace Go.Proofs.YthoicieckodneaaGreatDoor
open Go.RowKit
set_option linter.unusedVariables false
set_option linter.unusedSimpArgs false
theorem row_strs {w : World} {A : Option Addr} {xs : List ByteArray} (h : Row w A (xs.map Value.string)) {k : Nat} (hk : k < xs.length) :
    ∃ b off, A = some ⟨b, off, none⟩ ∧ w.cell? ⟨b, off + k, none⟩ = some (.string xs[k]) := by
  obtain ⟨b, off, e, hc⟩ := h.at_ (k := k) (by simpa using hk)
  exact ⟨b, off, e, hc k _ (by simp [hk])⟩
theorem take_neS {xs ys : List ByteArray} {k : Nat} (h1 : k < xs.length) (h2 : k < ys.length) (h : xs[k] ≠ ys[k]) : xs ≠ ys := by
  rintro rfl; exact h rfl
set_option maxHeartbeats 400000 in
theorem same_textsL (A B : Option Addr) (c d n : Nat) (xs ys : List ByteArray) (w : World) (hx : Row w A (xs.map Value.string)) (hy : Row w B (ys.map Value.string)) (HX : Hid (xs.length = n)) (HY : Hid (ys.length = n)) (hl : n ≤ maxLen) :
    Calls Tryz.prog 29 #[.slice A n c, .slice B n d] w fun e w' => e = .returned (.bool (decide (xs = ys))) ∧ Ext w w' := by
  unfold maxLen at hl
  go_enter Tryz.func29, Tryz.ntmps29
  go_wp2
  go_loopw [5] (fun i wr => ∃ k : Nat, k ≤ n ∧ i = .int .i64 k ∧ Hid (xs.take k = ys.take k) ∧ ∃ q, wr = w.drewN q) (fun i _ => n - (intOf i).toNat)
  case atStart => exact ⟨0, Nat.zero_le _, rfl, Lib.hid (by simp), 0, rfl⟩
  case round =>
    obtain ⟨k, hk, rfl, HK, q, rfl⟩ := hrel
    by_cases hlt : k < n
    · have kx : k < xs.length := by rw [HX.out]; exact hlt
      have ky : k < ys.length := by rw [HY.out]; exact hlt
      obtain ⟨b, off, rfl, hc⟩ := row_strs hx kx
      obtain ⟨b', off', rfl, hc'⟩ := row_strs hy ky
      have HT := Lib.hid (take_neS kx ky)
      have HS : Hid (xs[k] = ys[k] → xs.take (k + 1) = ys.take (k + 1)) := Lib.hid (fun h => by rw [List.take_succ_eq_append_getElem kx, List.take_succ_eq_append_getElem ky, HK.out, h])
      have i1 : ((k : Int) < (n : Int)) := by omega
      generalize xs[k] = x at *
      generalize ys[k] = y at *
      clear kx ky
      have hb := beq_str x y
      by_cases e : x = y
      · have E := Lib.hid e
        rw [decide_eq_true e] at hb
        have hb2 : (x.toList != y.toList) = false := by simp [bne, hb]
        clear e
        go_wp2
        go_quiet (fail)
        go_wp2
        go_roundw
        case rel => exact ⟨k + 1, by omega, by go_num, Lib.hid (HS.out E.out), _, rfl⟩
        case measure => simp [intOf]; omega
      · have E := Lib.hid e
        rw [decide_eq_false e] at hb
        have hb2 : (x.toList != y.toList) = true := by simp [bne, hb]
        clear e
        go_wp2
        go_quiet (fail)
        go_wp2
        go_ret
        exact ⟨ret_bool (by simp [HT.out E.out]), ⟨rfl, rfl, rfl, Nat.le_refl _, fun _ _ => rfl⟩⟩
    · have e : k = n := by omega
      subst e
      have HF : Hid (xs = ys) := by have h := HK.out; rw [List.take_of_length_le (by rw [HX.out]; omega), List.take_of_length_le (by rw [HY.out]; omega)] at h; exact Lib.hid h
      go_wp2
      go_ret
      exact ⟨ret_bool (by simp [HF.out]), ⟨rfl, rfl, rfl, Nat.le_refl _, fun _ _ => rfl⟩⟩
theorem same_texts (A B : Option Addr) (c d : Nat) (xs ys : List ByteArray) (w : World) (hx : Row w A (xs.map Value.string)) (hy : Row w B (ys.map Value.string)) (hl : xs.length ≤ maxLen) (hl' : ys.length ≤ maxLen) :
    Calls Tryz.prog 29 #[.slice A xs.length c, .slice B ys.length d] w fun e w' => e = .returned (.bool (decide (xs = ys))) ∧ Ext w w' := by
  by_cases he : xs.length = ys.length
  · rw [← he]
    exact same_textsL A B c d _ xs ys w hx hy (Lib.hid rfl) (Lib.hid he.symm) hl
  · have hne : ((xs.length : Int) != (ys.length : Int)) = true := by simp; omega
    have hxy : xs ≠ ys := by rintro rfl; exact he rfl
    have HN := Lib.hid hxy
    clear he hxy
    go_enter Tryz.func29, Tryz.ntmps29
    go_wp2
    go_ret
    exact ⟨ret_bool (by simp [HN.out]), Below.refl _ _⟩
end Go.Proofs.YthoicieckodneaaGreatDoor
