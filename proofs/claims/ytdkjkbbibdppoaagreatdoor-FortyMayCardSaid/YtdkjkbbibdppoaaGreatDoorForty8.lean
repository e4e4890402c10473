/- Walks: the laws of the forty: FortyMatches. -/
import Derived.Test.YtdkjkbbibdppoaaGreatDoorForty7
import Derived.Test.YtdkjkbbibdppoaaGreatDoorQTail
import Derived.Deep.RegionLaw
import Derived.Deep.DeepCutAuto
namespace Go.Proofs.YtdkjkbbibdppoaaGreatDoor.Forty
open Go.RowKit Small Strs
set_option linter.unusedVariables false
set_option linter.unusedSimpArgs false

theorem tname_at {w : World} {A : Option Addr} {xs : List ByteArray} (h : Row w A (xs.map Value.string)) {k : Nat} (hk : k < xs.length) :
    ∃ b off, A = some ⟨b, off, none⟩ ∧ w.cell? ⟨b, off + k, none⟩ = some (.string xs[k]) := by
  obtain ⟨b, off, e, hc⟩ := h.at_ (k := k) (by simpa using hk)
  exact ⟨b, off, e, hc k _ (by simp [hk])⟩

set_option maxHeartbeats 1000000 in
theorem law12_lives (w : World) : Calls Tryz.prog 43 #[] w fun e w' => e = .returned (.bool true) ∧ Ext w w' := by
  have H1 : Hid (matchB ⟨#[100, 101]⟩ = ⟨#[100, 101, 45, 65, 84]⟩) := Lib.hid (by decide +kernel)
  have H2 : Hid (matchE ⟨#[100, 101]⟩ = 0) := Lib.hid (by decide +kernel)
  have H3 : Hid (matchB ⟨#[102, 114, 45, 66, 69]⟩ = ⟨#[102, 114, 45, 67, 65]⟩) := Lib.hid (by decide +kernel)
  have H4 : Hid (matchE ⟨#[102, 114, 45, 66, 69]⟩ = 0) := Lib.hid (by decide +kernel)
  go_enter Tryz.func43, Tryz.ntmps43
  go_wp2_with fail
  refine (forty_match ⟨#[100, 101]⟩ _ (by decide)).mono ?_; rintro e w1 ⟨rfl, hx⟩
  rw [H1.out, H2.out]
  go_wp2_with fail
  refine (forty_match ⟨#[102, 114, 45, 66, 69]⟩ _ (by decide)).mono ?_; rintro e w2 ⟨rfl, hx2⟩
  rw [H3.out, H4.out]
  go_wp2
  go_ret
  exact ⟨rfl, hx.trans hx2⟩

theorem name_ne (k : Nat) (h : k < 40) : (nameAt k).size = 5 := by
  have : ∀ k : Fin 40, (nameAt k.1).size = 5 := by decide +kernel
  exact this ⟨k, h⟩
theorem idxF_lt {α : Type} (p : α → Bool) (xs : List α) (h : 0 ≤ idxF p xs) : ∃ k : Nat, ∃ hk : k < xs.length, idxF p xs = k ∧ p xs[k] = true := by
  unfold idxF at *
  cases hf : xs.findIdx? p with
  | none => rw [hf] at h; simp at h
  | some i =>
    rw [List.findIdx?_eq_some_iff_getElem] at hf
    obtain ⟨hi, hp, _⟩ := hf
    exact ⟨i, hi, rfl, hp⟩
theorem matchE_form (s : ByteArray) : (matchE s = 0 ∧ 1 ≤ (matchB s).size) ∨ (matchE s = 7 ∧ matchB s = ⟨#[]⟩) := by
  unfold matchE matchB
  by_cases h : 0 ≤ findZ s
  · rw [if_pos h, if_pos h]
    obtain ⟨k, hk, _, hp⟩ := idxF_lt _ _ h
    rw [List.getElem_range, decide_eq_true_iff] at hp
    refine .inl ⟨rfl, ?_⟩
    rw [← hp, name_ne k (by simpa using hk)]; decide
  · rw [if_neg h, if_neg h]
    by_cases h2 : 0 ≤ langZ s
    · rw [if_pos h2, if_pos h2]
      obtain ⟨k, hk, e, hp⟩ := idxF_lt _ _ h2
      refine .inl ⟨rfl, ?_⟩
      rw [show langZ s = k from e, Int.toNat_natCast, name_ne k (by simpa using hk)]; decide
    · rw [if_neg h2, if_neg h2]; exact .inr ⟨rfl, rfl⟩

end Go.Proofs.YtdkjkbbibdppoaaGreatDoor.Forty
