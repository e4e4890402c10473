/- LSym (no law: a locale's symbols, equality of records). (Printed by wip/gen/law11.py.) -/
import Derived.Test.YtdkjkbbibdppoaaGreatDoorLTell
import Derived.Test.YtdkjkbbibdppoaaGreatDoorLRef4
import Derived.Deep.RegionHeld3
namespace Go.Proofs.YtdkjkbbibdppoaaGreatDoor.Loc
open Go.RowKit Utf All Small Strs Build EncC Pat Cls Dec Go.Proofs.YtdkjkbbibdppoaaGreatDoor.Sys
set_option linter.unusedVariables false
set_option linter.unusedSimpArgs false

theorem digs_ne : ∀ s ∈ names, ∀ k : Fin 10, encB (zeroZ s + (k.val : Int)) ≠ [] := by decide +kernel
theorem rStruct : Tryz.prog.underlying 52 = some (.struct (Tryz.prog.fieldsOf 52)) := by kernel_rfl
theorem rHeld : Tryz.prog.stoodInHeld 52 = false := by kernel_rfl
theorem rGuard : Tryz.prog.eqGuardType Tryz.prog.depth 52 = false := by kernel_rfl
theorem eq_rec (r : Rec) (w : World) : (binOp .eql 52 (.agg ([.string ⟨r.name.toArray⟩, .string ⟨r.pattern.toArray⟩, .string ⟨r.system.toArray⟩, .string ⟨r.decimal.toArray⟩, .string ⟨r.group.toArray⟩, .string ⟨r.minus.toArray⟩, .string ⟨r.percent.toArray⟩, .string ⟨r.currency.toArray⟩] : List Value).toArray) (.agg ([.string ⟨r.name.toArray⟩, .string ⟨r.pattern.toArray⟩, .string ⟨r.system.toArray⟩, .string ⟨r.decimal.toArray⟩, .string ⟨r.group.toArray⟩, .string ⟨r.minus.toArray⟩, .string ⟨r.percent.toArray⟩, .string ⟨r.currency.toArray⟩] : List Value).toArray)).run Tryz.prog w = .ok (.bool true) w := by
  have u9 := Tryz.underlying9
  have a9 := Tryz.isAgg9
  have z9 := Tryz.sizeOf9
  rw [run_eql_struct, show (10000 : Nat) = 9999 + 1 from rfl, run_equalIn_agg w 9999 52 _ _ rStruct rHeld]
  simp only [Program.fieldsOf, Tryz.underlying52]
  go_simp
theorem dig_k {r : Rec} {p : Pt} (h : Both r p) {k : Nat} (hk : k < 10) : digZ (locOf r p) (k : Int) = encB (zeroZ ⟨r.system.toArray⟩ + (k : Int)) := by
  unfold digZ
  rw [if_pos (by omega), Int.toNat_natCast]
  show (digs r).getD k [] = _
  rw [List.getD_eq_getElem?_getD, List.getElem?_eq_getElem (by rw [digs_len]; exact hk), digs_at r hk]
  exact dig_eq h.may.sys (by omega) (by omega)
theorem dig_ne {r : Rec} {p : Pt} (h : Both r p) {k : Nat} (hk : k < 10) : digZ (locOf r p) (k : Int) ≠ [] := by
  rw [dig_k h hk]; exact digs_ne _ h.may.sys ⟨k, hk⟩
/-- a locale's symbols by their numbers -/
def symX (r : Rec) (n : Nat) : List UInt8 := if n ≤ 9 then encB (zeroZ ⟨r.system.toArray⟩ + (n : Int)) else if n = 10 then r.decimal else if n = 11 then r.group else r.minus
theorem digs_apart : ∀ s ∈ names, ∀ j : Fin 10, ∀ k : Fin 10, j ≠ k → encB (zeroZ s + (j.val : Int)) ≠ encB (zeroZ s + (k.val : Int)) := by decide +kernel
theorem digs_one : ∀ s ∈ names, ∀ k : Fin 10, (splitS (encB (zeroZ s + (k.val : Int)))).length = 1 := by decide +kernel
theorem sym_ne {t : List UInt8} (h : symL t = true) : t ≠ [] := by
  rintro rfl; revert h; decide
section
variable {r : Rec} {p : Pt}
theorem dB_sym (h : Both r p) {k : Nat} (hk : k < 10) : (dB (locOf r p)).getD k ByteArray.empty = ⟨(symX r k).toArray⟩ := by
  rw [dB_at r p hk, dig_eq h.may.sys (by omega) (by omega)]
  unfold symX; rw [if_pos (by omega)]
theorem d_mem (h : Both r p) {t : List UInt8} (ht : t ∈ (locOf r p).d) : ∃ k, k < 10 ∧ t = symX r k := by
  obtain ⟨k, hk, he⟩ := List.getElem_of_mem ht
  have hk' : k < 10 := by rw [show (locOf r p).d.length = 10 from digs_len r] at hk; exact hk
  refine ⟨k, hk', ?_⟩
  have e1 : (locOf r p).d[k] = digB ⟨r.system.toArray⟩ (k : Int) := digs_at r hk'
  rw [dig_eq h.may.sys (by omega) (by omega)] at e1
  exact (he.symm.trans e1).trans (by unfold symX; rw [if_pos (by omega)])
theorem sign_digit_ (h : Both r p) {n : Nat} (hn : n < 10) : signZ (locOf r p) ⟨(symX r n).toArray⟩ = n := by
  have hl := dB_len r p
  have hi := Lib.idxOfS_hit (dB (locOf r p)) 10 n ⟨(symX r n).toArray⟩ hn (by rw [hl]; exact Nat.le_refl _) (dB_sym h hn) (fun j hj => by
    rw [dB_sym h (by omega)]
    intro e
    have e' := ba_inj e
    unfold symX at e'
    rw [if_pos (by omega), if_pos (by omega)] at e'
    exact digs_apart _ h.may.sys ⟨j, by omega⟩ ⟨n, hn⟩ (fun e => by injection e with e; omega) e')
  rw [List.take_of_length_le (by rw [hl]; exact Nat.le_refl _)] at hi
  unfold signZ
  rw [hi, if_pos (by omega)]
theorem idx_range (h : Both r p) {t : List UInt8} (ht : t ∈ (locOf r p).d) : 0 ≤ signZ (locOf r p) ⟨t.toArray⟩ ∧ signZ (locOf r p) ⟨t.toArray⟩ < 10 := by
  obtain ⟨k, hk, rfl⟩ := d_mem h ht
  rw [sign_digit_ h hk]; omega
theorem sign_sym (h : Both r p) {n : Nat} (hn : n ≤ 12) (hg : n = 11 → grpZ (locOf r p) = true) : signZ (locOf r p) ⟨(symX r n).toArray⟩ = n := by
  by_cases h9 : n < 10
  · exact sign_digit_ h h9
  · have hdo : r.decimal ∉ (locOf r p).d := fun hm => h.may.decT (idx_range h hm)
    have hmo : r.minus ∉ (locOf r p).d := fun hm => h.may.minT (show 0 ≤ signZ (locOf r p) ⟨r.minus.toArray⟩ ∧ signZ (locOf r p) ⟨r.minus.toArray⟩ < 12 from ⟨(idx_range h hm).1, by have := (idx_range h hm).2; omega⟩)
    have hmd : r.minus ≠ r.decimal := fun e => h.may.minT (by
      have e2 : signZ (locOf r p) ⟨r.minus.toArray⟩ = 10 := by rw [e]; exact sign_dec hdo
      show 0 ≤ signZ (locOf r p) ⟨r.minus.toArray⟩ ∧ signZ (locOf r p) ⟨r.minus.toArray⟩ < 12
      omega)
    rcases (by omega : n = 10 ∨ n = 11 ∨ n = 12) with rfl | rfl | rfl
    · exact sign_dec hdo
    · have hz := hg rfl
      have hgo : r.group ∉ (locOf r p).d := fun hm => h.may.grpT hz (show 0 ≤ signZ (locOf r p) ⟨r.group.toArray⟩ ∧ signZ (locOf r p) ⟨r.group.toArray⟩ < 11 from ⟨(idx_range h hm).1, by have := (idx_range h hm).2; omega⟩)
      have hgd : r.group ≠ r.decimal := fun e => h.may.grpT hz (by
        have e2 : signZ (locOf r p) ⟨r.group.toArray⟩ = 10 := by rw [e]; exact sign_dec hdo
        show 0 ≤ signZ (locOf r p) ⟨r.group.toArray⟩ ∧ signZ (locOf r p) ⟨r.group.toArray⟩ < 11
        omega)
      exact sign_grp hgo hgd hz
    · refine sign_min hmo hmd fun hz e => h.may.minT ?_
      have hgo : r.group ∉ (locOf r p).d := fun hm => h.may.grpT hz (show 0 ≤ signZ (locOf r p) ⟨r.group.toArray⟩ ∧ signZ (locOf r p) ⟨r.group.toArray⟩ < 11 from ⟨(idx_range h hm).1, by have := (idx_range h hm).2; omega⟩)
      have hgd : r.group ≠ r.decimal := fun e => h.may.grpT hz (by
        have e2 : signZ (locOf r p) ⟨r.group.toArray⟩ = 10 := by rw [e]; exact sign_dec hdo
        show 0 ≤ signZ (locOf r p) ⟨r.group.toArray⟩ ∧ signZ (locOf r p) ⟨r.group.toArray⟩ < 11
        omega)
      have e2 : signZ (locOf r p) ⟨r.minus.toArray⟩ = 11 := by
        have e' : r.minus = r.group := e
        rw [e']; exact sign_grp hgo hgd hz
      show 0 ≤ signZ (locOf r p) ⟨r.minus.toArray⟩ ∧ signZ (locOf r p) ⟨r.minus.toArray⟩ < 12
      omega
theorem one_sym (h : Both r p) {n : Nat} (hn : n ≤ 12) (hg : n = 11 → grpZ (locOf r p) = true) : (splitS (symX r n)).length = 1 ∧ symX r n ≠ [] := by
  have hs : ∀ t, symL t = true → (splitS t).length = 1 ∧ t ≠ [] := fun t ht => ⟨by
    unfold symL at ht
    simp only [Bool.and_eq_true, decide_eq_true_eq] at ht
    exact ht.2, sym_ne ht⟩
  by_cases h9 : n ≤ 9
  · unfold symX
    rw [if_pos h9]
    exact ⟨digs_one _ h.may.sys ⟨n, by omega⟩, digs_ne _ h.may.sys ⟨n, by omega⟩⟩
  · unfold symX
    rw [if_neg h9]
    rcases (by omega : n = 10 ∨ n = 11 ∨ n = 12) with rfl | rfl | rfl
    · exact hs _ h.may.dec
    · have hz := hg rfl
      have hgr : if grpZ (locOf r p) = true then symL r.group = true else r.group = [] := h.may.grp
      rw [if_pos hz] at hgr
      exact hs _ hgr
    · exact hs _ h.may.min
theorem sign_nil (h : Both r p) : signZ (locOf r p) ⟨#[]⟩ = -1 := by
  refine sign_no (t := []) (fun hm => ?_) (fun e => ?_) (fun hz e => ?_) (fun e => ?_)
  · obtain ⟨k, hk, he⟩ := d_mem h hm
    exact (one_sym h (n := k) (by omega) (by omega)).2 he.symm
  · exact (one_sym h (n := 10) (by omega) (by omega)).2 e.symm
  · exact (one_sym h (n := 11) (by omega) (fun _ => hz)).2 e.symm
  · exact (one_sym h (n := 12) (by omega) (by omega)).2 e.symm
end
end Go.Proofs.YtdkjkbbibdppoaaGreatDoor.Loc
