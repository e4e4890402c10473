/- Walks: the library's functions on strings, at a separator of one byte: Index, Cut. -/
import Derived.Test.YtdkjkbbibdppoaaGreatDoorShelf
import Derived.Test.YtdkjkbbibdppoaaGreatDoorBase
import Derived.Lib.IndexLaws
namespace Go.Proofs.YtdkjkbbibdppoaaGreatDoor.Strs
open Go.RowKit
set_option linter.unusedVariables false
set_option linter.unusedSimpArgs false

abbrev one (c : UInt8) : ByteArray := ⟨#[c]⟩
theorem nat_u8 (c : UInt8) : c.toNat.toUInt8 = c := by simp
theorem u8_nat (c : UInt8) : ((c.toNat : Int).toNat).toUInt8 = c := by simp
theorem idx_one (c : UInt8) : Lib.indexByte [c] c = 0 := by simp [Lib.indexByte]

set_option maxHeartbeats 1000000 in
set_option maxRecDepth 100000 in
theorem index_one (s : ByteArray) (c : UInt8) (w : World) : Calls Tryz.prog 197 #[.string s, .string (one c)] w fun e w' => e = .returned (.int .i64 (Lib.indexByte s.data.toList c)) ∧ w = w' := by
  have hb : ([c] == s.toList) = decide (one c = s) := by rw [← beq_str]; congr 1; rw [ByteArray.toList_eq]
  by_cases e : one c = s
  · have HE : Hid (Lib.indexByte s.data.toList c = 0) := Lib.hid (by rw [← e]; exact idx_one c)
    rw [decide_eq_true e] at hb
    clear e
    go_enter Tryz.func197, Tryz.ntmps197
    go_wp2_with fail
    go_ret
    exact ⟨by rw [HE.out]; rfl, rfl⟩
  · rw [decide_eq_false e] at hb
    have HC : Hid (((((one c)[0]'(Nat.zero_lt_one)).toNat : Int).toNat).toUInt8 = c) := Lib.hid (u8_nat c)
    clear e
    go_enter Tryz.func197, Tryz.ntmps197
    go_wp2_with fail
    refine (Tryz.stringslite_IndexByte _ _ _).mono ?_; rintro e w' ⟨rfl, rfl⟩
    rw [HC.out]
    go_wp2_with fail
    go_ret
    exact ⟨rfl, rfl⟩

/-- what stands ahead of the first c, what behind it, and whether there is one -/
def cutL (c : UInt8) (l : List UInt8) : List UInt8 × List UInt8 × Bool := if 0 ≤ Lib.indexByte l c then (l.take (Lib.indexByte l c).toNat, l.drop ((Lib.indexByte l c).toNat + 1), true) else (l, [], false)
theorem indexByte_lt (l : List UInt8) (c : UInt8) (h : 0 ≤ Lib.indexByte l c) : (Lib.indexByte l c).toNat < l.length := by
  have h1 := (Lib.indexByte_some (o := (Lib.indexByte l c).toNat) (l := l) (c := c) (by omega)).1
  exact (List.getElem?_eq_some_iff.1 h1).1
theorem cut_take (s : ByteArray) (c : UInt8) (k : Nat) (h : Lib.indexByte s.data.toList c = k) : cutL c s.data.toList = (s.data.toList.take k, s.data.toList.drop (k + 1), true) := by
  unfold cutL; rw [h, if_pos (by omega), Int.toNat_natCast]
theorem ext_take (s : ByteArray) (k : Nat) : s.extract 0 k = ⟨(s.data.toList.take k).toArray⟩ := bytes_ext (by simp [ByteArray.data_extract])
theorem ext_drop (s : ByteArray) (k : Nat) : s.extract k s.size = ⟨(s.data.toList.drop k).toArray⟩ := bytes_ext (by
  rw [ByteArray.data_extract, Array.toList_extract]
  rw [List.extract_eq_take_drop]
  refine List.take_of_length_le ?_
  rw [List.length_drop, Array.length_toList]
  exact Nat.le_refl _)

set_option maxHeartbeats 1000000 in
set_option maxRecDepth 100000 in
theorem slcut_one (s : ByteArray) (c : UInt8) (w : World) (hs : s.size ≤ maxLen) : Calls Tryz.prog 169 #[.string s, .string (one c)] w fun e w' => e = .returned (.tuple #[.string ⟨(cutL c s.data.toList).1.toArray⟩, .string ⟨(cutL c s.data.toList).2.1.toArray⟩, .bool (cutL c s.data.toList).2.2]) ∧ Ext w w' := by
  unfold maxLen at hs
  by_cases h : 0 ≤ Lib.indexByte s.data.toList c
  · have hlt := indexByte_lt _ _ h
    have hl : s.data.toList.length = s.size := Array.length_toList
    rw [hl] at hlt
    obtain ⟨k, hk⟩ := Int.eq_ofNat_of_zero_le h
    have HK := Lib.hid hk
    have HC := Lib.hid (cut_take s c k hk)
    have hks : k < s.size := by rw [hk] at hlt; simpa using hlt
    have hk1 : k ≤ s.size := by omega
    have hk2 : k + 1 ≤ s.size := by omega
    have H1 := Lib.hid (ext_take s k)
    have H2 := Lib.hid (ext_drop s (k + 1))
    clear h hk hlt hl
    go_enter Tryz.func169, Tryz.ntmps169
    go_wp2_with fail
    refine (index_one _ _ _).mono ?_; rintro e w' ⟨rfl, rfl⟩
    rw [HK.out]
    have k3 : IntKind.i64.wrap ((k : Int) + 1) = (k : Int) + 1 := IntWalk.i64_in _ (by omega)
    have k6 : (k : Int) + 1 ≤ (s.size : Int) := by omega
    have k4 : (0 : Int) ≤ (k : Int) + 1 := by omega
    have k5 : ((k : Int) + 1).toNat = k + 1 := by omega
    go_wp2_with fail
    go_quiet (fail)
    go_wp2_with fail
    go_ret3
    exact ⟨by rw [HC.out, H1.out, H2.out]; rfl, ext_drewN _ _⟩
  · have HC : Hid (cutL c s.data.toList = (s.data.toList, [], false)) := Lib.hid (by unfold cutL; rw [if_neg h])
    have hn : Lib.indexByte s.data.toList c < 0 := by omega
    have HS : Hid ((⟨s.data.toList.toArray⟩ : ByteArray) = s) := Lib.hid rfl
    generalize hi : Lib.indexByte s.data.toList c = i at *
    have HI := Lib.hid hi
    clear h hi
    go_enter Tryz.func169, Tryz.ntmps169
    go_wp2_with fail
    refine (index_one _ _ _).mono ?_; rintro e w' ⟨rfl, rfl⟩
    rw [HI.out]
    go_wp2_with fail
    go_ret3
    exact ⟨by rw [HC.out]; rfl, Below.refl _ _⟩

set_option maxHeartbeats 1000000 in
theorem cut_one (s : ByteArray) (c : UInt8) (w : World) (hs : s.size ≤ maxLen) : Calls Tryz.prog 141 #[.string s, .string (one c)] w fun e w' => e = .returned (.tuple #[.string ⟨(cutL c s.data.toList).1.toArray⟩, .string ⟨(cutL c s.data.toList).2.1.toArray⟩, .bool (cutL c s.data.toList).2.2]) ∧ Ext w w' := by
  go_enter Tryz.func141, Tryz.ntmps141
  go_wp2_with fail
  refine (slcut_one _ _ _ hs).mono ?_; rintro e w1 ⟨rfl, hx⟩
  go_wp2_with fail
  go_ret3
  exact ⟨rfl, hx⟩
end Go.Proofs.YtdkjkbbibdppoaaGreatDoor.Strs
