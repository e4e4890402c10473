/- Walks: the forty records, the document's side. -/
import Derived.Test.YtdkjkbbibdppoaaGreatDoorForty
import Derived.Test.YtdkjkbbibdppoaaGreatDoorJUtf
import Derived.Test.YtdkjkbbibdppoaaGreatDoorJBase
namespace Go.Proofs.YtdkjkbbibdppoaaGreatDoor.Forty
open Go.RowKit Small
set_option linter.unusedVariables false
set_option linter.unusedSimpArgs false

/-- the cells of record k -/
def recL (k : Nat) : List Value := [.string (fldAt k 0), .string (fldAt k 1), .string (fldAt k 2), .string (fldAt k 3), .string (fldAt k 4), .string (fldAt k 5), .string (fldAt k 6), .string (fldAt k 7)]
theorem recV_L (k : Nat) : recV k = .agg (recL k).toArray := rfl
theorem rec_cell {w : World} {b off : Nat} (h : Row w (some ⟨b, off, none⟩) cells40) {k : Nat} (hk : k < 40) {j : Nat} (hj : j < 8) : w.cell? ⟨b, off + k * 8 + j, none⟩ = some (.string (fldAt k j)) := by
  have := h.cell0 (cells_at hk hj)
  rwa [Nat.mul_comm 8 k, ← Nat.add_assoc] at this
theorem recL_at {k j : Nat} {v : Value} (h : (recL k)[j]? = some v) : j < 8 ∧ v = .string (fldAt k j) := by
  have hj : j < 8 := by have := (List.getElem?_eq_some_iff.1 h).1; simpa [recL] using this
  refine ⟨hj, ?_⟩
  match j, hj with
  | 0, _ | 1, _ | 2, _ | 3, _ | 4, _ | 5, _ | 6, _ | 7, _ => simpa [recL] using h.symm
theorem rec_range {w : World} {b off : Nat} (h : Row w (some ⟨b, off, none⟩) cells40) {k : Nat} (hk : k < 40) : w.rangeAt b (off + k * 8) (recL k) := fun j v hv => by
  obtain ⟨hj, rfl⟩ := recL_at hv
  exact rec_cell h hk hj
def zero8 : List Value := [.string ⟨#[]⟩, .string ⟨#[]⟩, .string ⟨#[]⟩, .string ⟨#[]⟩, .string ⟨#[]⟩, .string ⟨#[]⟩, .string ⟨#[]⟩, .string ⟨#[]⟩]
theorem infoR : (Tryz.prog.info? 45).map (·.size) = some 8 := by kernel_rfl
theorem infoL : (Tryz.prog.info? 52).map (·.size) = some 8 := by kernel_rfl
theorem cells40_len : cells40.length = 320 := by decide +kernel
theorem recL_one (k : Nat) : (recL k).toArray.all (·.oneCell') = true := by simp [recL, Value.oneCell']

set_option maxHeartbeats 1000000 in
theorem ref_one (n : Int) (w : World) (h1 : -9223372036854775808 ≤ n) (h2 : n ≤ 9223372036854775807) :
    Calls Tryz.prog 44 #[.int .i64 n] w fun e w' => e = .returned (recV (aroundF n 40).toNat) ∧ Ext w w' := by
  have hb := aroundF_bd n 40 (by omega)
  have HF : Hid (aroundF n 40 = ((aroundF n 40).toNat : Int)) := Lib.hid (by omega)
  have hk : (aroundF n 40).toNat < 40 := by omega
  generalize hkk : (aroundF n 40).toNat = k at *
  clear hkk hb
  have hb0 : Box (w.alloc (.cells zero8.toArray 45)) w.heap.size 45 zero8 := Box.new _ _ _
  have HB0 := Lib.hid hb0
  clear hb0
  go_enter Tryz.func44, Tryz.ntmps44
  go_wp2_with fail
  refine (ref_records _).mono ?_; rintro e w1 ⟨A, rfl, hrow, hx⟩
  go_wp2_with fail
  refine (around _ _ _ h1 h2 (by omega) (by omega)).mono ?_; rintro e w2 ⟨rfl, rfl⟩
  rw [HF.out]
  obtain ⟨b, off, rfl, -⟩ := hrow.at_ (k := 0) (by rw [cells40_len]; omega)
  have HB1 := Lib.hid (HB0.out.ext hx)
  have HX := Lib.hid hx
  have HR := Lib.hid (rec_range hrow hk)
  clear hx hrow HB0
  go_wp2_with (first
    | (refine wpList_load_mid rfl 45 (.tmp 6) rfl b (off + k * 8) rfl (recL k) _ HR.out Tryz.underlying45 rfl infoR ?_)
    | (refine wpList_store_row rfl 45 (.tmp 2) (.tmp 7) rfl w.heap.size (recL k).toArray rfl rfl _ _ HB1.out infoR rfl (recL_one k) ?_))
  have hb2 := HB1.out.set (recL k).toArray
  refine bodyPost_ret (v := recV k) (results_cell_row rfl _ _ w.heap.size _ _ _ _ rfl hb2 Tryz.underlying45 rfl infoR) rfl ⟨rfl, ?_⟩
  exact Ext.setRow (((Below.refl _ _).alloc (Nat.le_refl _) _).trans (HX.out.mono (by simp))) (Nat.le_refl _) _

theorem nameAt_eq (k : Nat) : fldAt k 0 = nameAt k := rfl
/-- where a name stands, -1: nowhere -/
def findZ (s : ByteArray) : Int := idxF (fun k => decide (nameAt k = s)) (List.range 40)
theorem range_get {n k : Nat} (h : k < n) : (List.range n)[k]'(by simpa using h) = k := by simp
set_option maxHeartbeats 1000000 in
theorem ref_find (s : ByteArray) (w : World) : Calls Tryz.prog 42 #[.string s] w fun e w' => e = .returned (.int .i64 (findZ s)) ∧ Ext w w' := by
  go_enter Tryz.func42, Tryz.ntmps42
  go_wp2_with fail
  refine (ref_records _).mono ?_; rintro e w1 ⟨A, rfl, hrow, hx⟩
  obtain ⟨b, off, rfl, -⟩ := hrow.at_ (k := 0) (by rw [cells40_len]; omega)
  have HR := Lib.hid hrow
  clear hrow
  go_wp2
  go_loop [4] (fun i => ∃ k : Nat, k ≤ 40 ∧ i = .int .i64 k ∧ Hid (((List.range 40).take k).any (fun k => decide (nameAt k = s)) = false)) (fun i => 40 - (intOf i).toNat)
  case atStart => exact ⟨0, Nat.zero_le _, rfl, Lib.hid rfl⟩
  case round =>
    obtain ⟨k, hk, rfl, HK⟩ := hrel
    by_cases hlt : k < 40
    · have hc := rec_cell HR.out hlt (j := 0) (by omega)
      rw [nameAt_eq, Nat.add_zero] at hc
      have HA := Lib.hid (idxF_at (fun k => decide (nameAt k = s)) (List.range 40) k (by simpa using hlt) HK.out)
      have HT := Lib.hid (any_snoc (fun k => decide (nameAt k = s)) (List.range 40) k (by simpa using hlt))
      rw [range_get hlt] at HA HT
      generalize nameAt k = x at *
      cases hb : x.toList == s.toList
      · have HB := Lib.hid ((beq_str x s).symm.trans hb)
        go_wp2
        go_round
        case rel => exact ⟨k + 1, by omega, by go_num, Lib.hid (by rw [HT.out, HK.out, HB.out]; rfl)⟩
        case measure => simp [intOf]; omega
      · have HB := Lib.hid ((beq_str x s).symm.trans hb)
        go_wp2
        go_ret
        exact ⟨by rw [findZ, HA.out HB.out]; rfl, hx⟩
    · have e : k = 40 := by omega
      subst e
      have HZ : Hid (findZ s = -1) := Lib.hid (idxF_none _ _ HK.out)
      go_wp2
      go_ret
      exact ⟨by rw [HZ.out]; rfl, hx⟩

/-- what stands ahead of the first '-' -/
def langL (l : List UInt8) : List UInt8 := l.takeWhile (· ≠ 45)
theorem langL_hit {l : List UInt8} {k : Nat} (hk : k < l.length) (h : ∀ x ∈ l.take k, x ≠ 45) (he : l[k] = 45) : langL l = l.take k := by
  have e : l = l.take k ++ l[k] :: l.drop (k + 1) := by rw [← List.drop_eq_getElem_cons, List.take_append_drop]
  have : langL (l.take k ++ l[k] :: l.drop (k + 1)) = l.take k := by
    unfold langL
    rw [List.takeWhile_append_of_pos (fun y hy => by simpa using h y hy), he]
    simp
  rwa [← e] at this
theorem langL_none {l : List UInt8} (h : ∀ x ∈ l, x ≠ 45) : langL l = l := by
  unfold langL
  induction l with
  | nil => rfl
  | cons a l ih => rw [List.takeWhile_cons, if_pos (by simpa using h a (by simp)), ih (fun x hx => h x (by simp [hx]))]
theorem langL_len (l : List UInt8) : (langL l).length ≤ l.length := (List.takeWhile_prefix _).length_le
end Go.Proofs.YtdkjkbbibdppoaaGreatDoor.Forty
