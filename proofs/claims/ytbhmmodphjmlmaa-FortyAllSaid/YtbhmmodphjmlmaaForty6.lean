/- Walks: the name that is nearest to a tag. -/
import Derived.Test.YtbhmmodphjmlmaaForty5
import Derived.Test.YtbhmmodphjmlmaaStrs
namespace Go.Proofs.Ytbhmmodphjmlmaa.Forty
open Go.RowKit Go.Shelf Small Strs
set_option linter.unusedVariables false
set_option linter.unusedSimpArgs false

theorem cut_lang (l : List UInt8) : (cutL 45 l).1 = langL l := by
  unfold cutL
  split
  · rename_i h
    obtain ⟨h1, h2⟩ := Lib.indexByte_some (o := (Lib.indexByte l 45).toNat) (l := l) (c := 45) (by omega)
    obtain ⟨hl, he⟩ := List.getElem?_eq_some_iff.1 h1
    refine (langL_hit hl (fun x hx => ?_) he).symm
    obtain ⟨i, hi, rfl⟩ := List.mem_take_iff_getElem.1 hx
    intro e
    refine h2 i (by omega) ?_
    rw [List.getElem?_eq_getElem (by omega), e]
  · rename_i h
    refine (langL_none fun x hx e => ?_).symm
    have h1 := Lib.indexByte_none (l := l) (c := 45) (by have := Lib.indexByte_ge l 45; omega)
    obtain ⟨i, hi, rfl⟩ := List.mem_iff_getElem.1 hx
    exact h1 i (by rw [List.getElem?_eq_getElem hi, e])

theorem name_size (k : Nat) : (nameAt k).size ≤ 5 := by
  by_cases h : k < 40
  · have : ∀ k : Fin 40, (nameAt k.1).size ≤ 5 := by decide +kernel
    exact this ⟨k, h⟩
  · have : nameAt k = ⟨#[]⟩ := by
      unfold nameAt fldAt recAt
      have hl : recs.length = 40 := rfl
      have hz : recs.getD k [] = [] := by rw [List.getD_eq_getElem?_getD, List.getElem?_eq_none (by omega)]; rfl
      rw [hz]; rfl
    rw [this]; decide
/-- which of the forty has the language of a tag, -1: none -/
def sameL (s : ByteArray) (k : Nat) : Bool := decide (langL (nameAt k).data.toList = langL s.data.toList)
def langZ (s : ByteArray) : Int := idxF (sameL s) (List.range 40)
/-- the name that is nearest -/
def matchB (s : ByteArray) : ByteArray := if 0 ≤ findZ s then s else if 0 ≤ langZ s then nameAt (langZ s).toNat else ⟨#[]⟩
def matchE (s : ByteArray) : Int := if 0 ≤ findZ s then 0 else if 0 ≤ langZ s then 0 else 7
theorem sameL_beq (s : ByteArray) (k : Nat) : (langL (nameAt k).data.toList == langL s.data.toList) = sameL s k := by
  rw [Bool.eq_iff_iff]; simp [sameL]

set_option maxHeartbeats 1000000 in
theorem ref_match (s : ByteArray) (w : World) (hs : s.size ≤ maxLen) : Calls Try.prog 38 #[.string s] w fun e w' => e = .returned (.string (matchB s)) ∧ Ext w w' := by
  by_cases h0 : 0 ≤ findZ s
  · have HM : Hid (matchB s = s) := Lib.hid (by rw [matchB, if_pos h0])
    go_enter Try.func38, Try.ntmps38
    go_wp2_with fail
    refine (ref_find _ _).mono ?_; rintro e w1 ⟨rfl, hx⟩
    go_wp2_with fail
    go_ret
    exact ⟨by rw [HM.out]; rfl, hx⟩
  · have HM : Hid (matchB s = if 0 ≤ langZ s then nameAt (langZ s).toNat else ⟨#[]⟩) := Lib.hid (by rw [matchB, if_neg h0])
    have h0' : findZ s < 0 := by omega
    go_enter Try.func38, Try.ntmps38
    go_wp2_with fail
    refine (ref_find _ _).mono ?_; rintro e w1 ⟨rfl, hx⟩
    go_wp2_with fail
    refine (ref_records _).mono ?_; rintro e w2 ⟨A, rfl, hrow, hx2⟩
    obtain ⟨b, off, rfl, -⟩ := hrow.at_ (k := 0) (by rw [cells40_len]; omega)
    have HR := Lib.hid hrow
    have hx12 := hx.trans hx2
    clear hrow hx hx2 h0 h0'
    go_wp2
    go_loop [4] (fun i => ∃ k : Nat, k ≤ 40 ∧ i = .int .i64 k ∧ Hid (((List.range 40).take k).any (sameL s) = false)) (fun i => 40 - (intOf i).toNat)
    case atStart => exact ⟨0, Nat.zero_le _, rfl, Lib.hid rfl⟩
    case round =>
      obtain ⟨k, hk, rfl, HK⟩ := hrel
      by_cases hlt : k < 40
      · have hc := rec_cell HR.out hlt (j := 0) (by omega)
        rw [nameAt_eq, Nat.add_zero] at hc
        have hns := name_size k
        have HA := Lib.hid (idxF_at (sameL s) (List.range 40) k (by simpa using hlt) HK.out)
        have HT := Lib.hid (any_snoc (sameL s) (List.range 40) k (by simpa using hlt))
        rw [range_get hlt] at HA HT
        have HS := Lib.hid (sameL_beq s k)
        go_wp2_with fail
        refine (ref_language _ _ (by unfold maxLen; omega)).mono ?_; rintro e w3 ⟨rfl, rfl⟩
        go_wp2_with fail
        refine (ref_language _ _ hs).mono ?_; rintro e w3 ⟨rfl, rfl⟩
        cases hb : sameL s k
        · have HB := Lib.hid hb
          have hq := HS.out.trans hb
          clear hb
          go_wp2
          go_round
          case rel => exact ⟨k + 1, by omega, by go_num, Lib.hid (by rw [HT.out, HK.out, HB.out]; rfl)⟩
          case measure => simp [intOf]; omega
        · have HB := Lib.hid hb
          have hq := HS.out.trans hb
          have HZ : Hid (langZ s = k) := Lib.hid (HA.out hb)
          clear hb
          go_wp2
          go_ret
          exact ⟨by rw [HM.out, HZ.out, if_pos (by omega)]; rfl, hx12⟩
      · have e : k = 40 := by omega
        subst e
        have HZ : Hid (langZ s = -1) := Lib.hid (idxF_none _ _ HK.out)
        go_wp2
        go_ret
        exact ⟨by rw [HM.out, HZ.out]; rfl, hx12⟩
end Go.Proofs.Ytbhmmodphjmlmaa.Forty
