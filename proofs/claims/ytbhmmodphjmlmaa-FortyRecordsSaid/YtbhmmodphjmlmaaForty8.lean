/- Walks: the laws of the forty: FortyMatches. -/
import Derived.Test.YtbhmmodphjmlmaaForty7
import Derived.Test.YtbhmmodphjmlmaaQTail
import Derived.Deep.RegionLaw
import Derived.Deep.DeepCutAuto
namespace Go.Proofs.Ytbhmmodphjmlmaa.Forty
open Go.RowKit Small Strs
set_option linter.unusedVariables false
set_option linter.unusedSimpArgs false

theorem tname_at {w : World} {A : Option Addr} {xs : List ByteArray} (h : Row w A (xs.map Value.string)) {k : Nat} (hk : k < xs.length) :
    ∃ b off, A = some ⟨b, off, none⟩ ∧ w.cell? ⟨b, off + k, none⟩ = some (.string xs[k]) := by
  obtain ⟨b, off, e, hc⟩ := h.at_ (k := k) (by simpa using hk)
  exact ⟨b, off, e, hc k _ (by simp [hk])⟩

set_option maxHeartbeats 1000000 in
theorem law12_lives (w : World) : Calls Try.prog 39 #[] w fun e w' => e = .returned (.bool true) ∧ Ext w w' := by
  have H1 : Hid (matchB ⟨#[100, 101]⟩ = ⟨#[100, 101, 45, 65, 84]⟩) := Lib.hid (by decide +kernel)
  have H2 : Hid (matchE ⟨#[100, 101]⟩ = 0) := Lib.hid (by decide +kernel)
  have H3 : Hid (matchB ⟨#[102, 114, 45, 66, 69]⟩ = ⟨#[102, 114, 45, 67, 65]⟩) := Lib.hid (by decide +kernel)
  have H4 : Hid (matchE ⟨#[102, 114, 45, 66, 69]⟩ = 0) := Lib.hid (by decide +kernel)
  go_enter Try.func39, Try.ntmps39
  go_wp2_with fail
  refine (forty_match ⟨#[100, 101]⟩ _ (by decide)).mono ?_; rintro e w1 ⟨rfl, hx⟩
  rw [H1.out, H2.out]
  go_wp2_with fail
  refine (forty_match ⟨#[102, 114, 45, 66, 69]⟩ _ (by decide)).mono ?_; rintro e w2 ⟨rfl, hx2⟩
  rw [H3.out, H4.out]
  go_wp2
  go_ret
  exact ⟨rfl, hx.trans hx2⟩

theorem name_ne (k : Nat) (h : k < 40) : (nameAt k).size = 5 := by
  have : ∀ k : Fin 40, (nameAt k.1).size = 5 := by decide +kernel
  exact this ⟨k, h⟩
theorem idxF_lt {α : Type} (p : α → Bool) (xs : List α) (h : 0 ≤ idxF p xs) : ∃ k : Nat, ∃ hk : k < xs.length, idxF p xs = k ∧ p xs[k] = true := by
  unfold idxF at *
  cases hf : xs.findIdx? p with
  | none => rw [hf] at h; simp at h
  | some i =>
    rw [List.findIdx?_eq_some_iff_getElem] at hf
    obtain ⟨hi, hp, _⟩ := hf
    exact ⟨i, hi, rfl, hp⟩
theorem matchE_form (s : ByteArray) : (matchE s = 0 ∧ 1 ≤ (matchB s).size) ∨ (matchE s = 7 ∧ matchB s = ⟨#[]⟩) := by
  unfold matchE matchB
  by_cases h : 0 ≤ findZ s
  · rw [if_pos h, if_pos h]
    obtain ⟨k, hk, _, hp⟩ := idxF_lt _ _ h
    rw [List.getElem_range, decide_eq_true_iff] at hp
    refine .inl ⟨rfl, ?_⟩
    rw [← hp, name_ne k (by simpa using hk)]; decide
  · rw [if_neg h, if_neg h]
    by_cases h2 : 0 ≤ langZ s
    · rw [if_pos h2, if_pos h2]
      obtain ⟨k, hk, e, hp⟩ := idxF_lt _ _ h2
      refine .inl ⟨rfl, ?_⟩
      rw [show langZ s = k from e, Int.toNat_natCast, name_ne k (by simpa using hk)]; decide
    · rw [if_neg h2, if_neg h2]; exact .inr ⟨rfl, rfl⟩

set_option maxHeartbeats 2000000 in
set_option maxRecDepth 100000 in
theorem law12_FortyMatches (s : ByteArray) (n : Int) (t : ByteArray) (w : World) (hs : s.size ≤ maxLen) (n1 : -9223372036854775808 ≤ n) (n2 : n ≤ 9223372036854775807) (ht : t.size ≤ maxLen) :
    Calls Try.prog 9 #[.string s, .int .i64 n, .string t] w fun e w' => e = .returned (.bool true) ∧ Ext w w' := by
  have hb := aroundF_bd n 40 (by omega)
  have hk : (aroundF n 40).toNat < 40 := by omega
  go_enter Try.func9, Try.ntmps9
  go_wp2_with fail
  refine (ref_one _ _ n1 n2).mono ?_; rintro e w1 ⟨rfl, hx1⟩
  generalize (aroundF n 40).toNat = k at *
  have hns := name_ne k hk
  clear hb
  rw [show recV k = .agg #[.string (nameAt k), .string (fldAt k 1), .string (fldAt k 2), .string (fldAt k 3), .string (fldAt k 4), .string (fldAt k 5), .string (fldAt k 6), .string (fldAt k 7)] from rfl]
  have hf16 := fewB_size s 16
  have hf6 := fewB_size t 6
  generalize nameAt k = nm at *
  generalize fldAt k 1 = f1 at *
  generalize fldAt k 2 = f2 at *
  generalize fldAt k 3 = f3 at *
  generalize fldAt k 4 = f4 at *
  generalize fldAt k 5 = f5 at *
  generalize fldAt k 6 = f6 at *
  generalize fldAt k 7 = f7 at *
  have i1 : (2 : Int) ≤ (nm.size : Int) := by omega
  have i2 : 2 ≤ nm.size := by omega
  have hfld : ∀ w, (Instr.field 53 (.agg #[.string nm, .string f1, .string f2, .string f3, .string f4, .string f5, .string f6, .string f7]) 0).run Try.prog w = .ok (.string nm) w := fun w => by kernel_rfl
  have H16 : ∀ w, Calls Try.prog 24 #[.string s, .int .i64 16] w fun e w' => e = .returned (.string (fewB s 16)) ∧ w = w' := fun w => few s 16 w hs (by decide)
  have H6 : ∀ w, Calls Try.prog 24 #[.string t, .int .i64 6] w fun e w' => e = .returned (.string (fewB t 6)) ∧ w = w' := fun w => few t 6 w ht (by decide)
  go_upto_region 2 with fail
  go_cut [8] (fun v wx => ∃ (A : Option Addr) (xs : List ByteArray), (∀ x ∈ xs, x.size ≤ 1000) ∧ xs.length = 5 ∧ v = .slice A 5 5 ∧ Row wx A (xs.map Value.string) ∧ Ext w wx)
  case first =>
    refine region_ext_tail 16 (by kernel_rfl) (by kernel_rfl) ?_
    simp only [List.take_succ_cons, List.take_zero, List.drop_succ_cons, List.drop_zero]
    repeat (go_big_quiet_step ((first | (with_reducible exact ext_same (H16 _)) | (with_reducible exact ext_same (H6 _)))))
    refine wpQuiet_nil ?_
    rintro _ ⟨x, rfl⟩
    obtain ⟨wx, hx⟩ := x
    go_wp2_with fail
    go_meet
    have e1 : (nm.extract 0 2).size ≤ 5 := by rw [ByteArray.size_extract]; omega
    have e2 : (nm.extract 0 2 ++ ⟨#[45]⟩ ++ fewB t 6).size ≤ 1000 := by
      rw [ByteArray.size_append, ByteArray.size_append]
      have : (⟨#[45]⟩ : ByteArray).size = 1 := rfl
      omega
    have e3 : (nm.extract 0 2 ++ fewB t 6).size ≤ 1000 := by rw [ByteArray.size_append]; omega
    refine ⟨_, [fewB s 16, nm, nm.extract 0 2, nm.extract 0 2 ++ ⟨#[45]⟩ ++ fewB t 6, nm.extract 0 2 ++ fewB t 6], ?_, rfl, rfl, row_new wx _ 9, Ext.alloc_ (hx1.trans hx) _⟩
    intro x hm
    simp only [List.mem_cons, List.not_mem_nil, or_false] at hm
    rcases hm with rfl | rfl | rfl | rfl | rfl <;> omega
  case rest =>
    obtain ⟨A, xs, hxs, hxl, rfl, hrow, hx⟩ := hcut
    have HXS := Lib.hid hxs
    have HXL := Lib.hid hxl
    clear hxs hxl hx1
    go_wp2_with fail
    go_loopw [9] (fun i wr => ∃ k : Nat, k ≤ 5 ∧ i = .int .i64 k ∧ Ext wc wr) (fun i _ => 5 - (intOf i).toNat)
    case atStart => exact ⟨0, Nat.zero_le _, rfl, Ext.refl _⟩
    case round =>
      obtain ⟨k, hk, rfl, hxr⟩ := hrel
      by_cases hlt : k < 5
      · have kx : k < xs.length := by rw [HXL.out]; exact hlt
        obtain ⟨b, off, rfl, hc⟩ := tname_at (hrow.below hxr (Nat.le_refl _)) kx
        have hsz := HXS.out _ (List.getElem_mem kx)
        generalize xs[k] = x at *
        clear kx
        have HF := Lib.hid (matchE_form x)
        have HC := Lib.hid hc
        go_wp2_with fail
        refine (forty_match x _ (by unfold maxLen; omega)).mono ?_; rintro e w3 ⟨rfl, hx3⟩
        have hc3 := Ext.cell_ hx3 HC.out
        clear hc
        have hx33 := hxr.trans hx3
        clear hxr hx3
        rcases HF.out with ⟨he, hm⟩ | ⟨he, hm⟩
        · rw [he]
          have hm1 : (matchB x).toList.isEmpty = false := by
            rw [ByteArray.toList_eq]
            have : (matchB x).data.toList.length = (matchB x).size := Array.length_toList
            cases hh : (matchB x).data.toList with
            | nil => rw [hh] at this; simp at this; omega
            | cons a l => rfl
          have HM1 := Lib.hid hm1
          clear he hm hm1 HF
          go_wp2_with fail
          refine (ref_match x _ (by unfold maxLen; omega)).mono ?_; rintro e w4 ⟨rfl, hx4⟩
          have hm1 := HM1.out
          go_wp2
          go_roundw
          case rel => exact ⟨k + 1, by omega, by go_num, hx33.trans hx4⟩
          case measure => simp [intOf]; omega
        · rw [he, hm]
          have HM := Lib.hid hm
          clear he hm HF
          go_wp2_with fail
          refine (ref_match x _ (by unfold maxLen; omega)).mono ?_; rintro e w4 ⟨rfl, hx4⟩
          rw [HM.out]
          go_wp2
          go_roundw
          case rel => exact ⟨k + 1, by omega, by go_num, hx33.trans hx4⟩
          case measure => simp [intOf]; omega
      · have e : k = 5 := by omega
        subst e
        go_wp2_with fail
        refine (law12_lives _).mono ?_; rintro e w4 ⟨rfl, hx4⟩
        go_wp2
        go_ret
        exact ⟨rfl, hx.trans (hxr.trans hx4)⟩
end Go.Proofs.Ytbhmmodphjmlmaa.Forty
