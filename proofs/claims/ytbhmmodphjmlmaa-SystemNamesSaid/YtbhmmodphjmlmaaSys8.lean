/- Walks: system.Convert, the law SystemConverts. -/
import Derived.Test.YtbhmmodphjmlmaaSys7
namespace Go.Proofs.Ytbhmmodphjmlmaa.Sys
open Go.RowKit Utf Small Build All Dec
set_option linter.unusedVariables false
set_option linter.unusedSimpArgs false

def convZ (f t : ByteArray) (l : List UInt8) : List UInt8 × Int := if zeroZ t < 0 then ([], 7) else if (readZ f l).2 = 0 then shapeZ t (readZ f l).1 else ([], (readZ f l).2)
theorem readZ_len (s : ByteArray) (l : List UInt8) : (readZ s l).1.length ≤ l.length := by
  have h1 := pieces_len _ l (Nat.le_refl _)
  unfold readZ readC charsL
  split
  · simp
  · split
    · simpa using h1
    · simp
theorem readZ_cases (s : ByteArray) (l : List UInt8) : (zeroZ s < 0 ∧ (readZ s l).2 = 7) ∨ (0 ≤ zeroZ s ∧ (((readZ s l).2 = 0 ∧ digOk (readZ s l).1 = true) ∨ (readZ s l).2 = 2)) := by
  unfold readZ
  by_cases h : zeroZ s < 0
  · rw [if_pos h]; exact .inl ⟨h, rfl⟩
  · rw [if_neg h]
    refine .inr ⟨by omega, ?_⟩
    cases ha : (charsL l).all (goodP (zeroZ s))
    · refine .inr ?_
      unfold readC
      unfold goodP at ha
      rw [ha]; rfl
    · refine .inl ?_
      rw [readC_good _ _ ha]
      refine ⟨rfl, ?_⟩
      unfold digOk
      rw [List.all_eq_true]
      rw [List.all_eq_true] at ha
      intro d hd
      obtain ⟨c, hc, rfl⟩ := List.mem_map.1 hd
      have := ha c hc
      unfold goodP at this
      simp at this
      have hv : valZ (zeroZ s) c ≤ 9 := by
        unfold valZ; split <;> omega
      simp; omega

set_option maxHeartbeats 2000000 in
set_option maxRecDepth 100000 in
theorem sys_convert (f t s : ByteArray) (w : World) (hs : s.size ≤ 1000000) :
    Calls Try.prog 35 #[.string f, .string t, .string s] w fun e w' => e = .returned (.tuple #[.string ⟨(convZ f t s.data.toList).1.toArray⟩, .int .i64 (convZ f t s.data.toList).2]) ∧ Ext w w' := by
  have HZ := sys_zero t
  have hrl := readZ_len f s.data.toList
  rw [data_len] at hrl
  rcases noneE_cases t with ⟨hz, hn, hm⟩ | ⟨hz, hz2, hn, hm⟩
  · have HF : Hid (convZ f t s.data.toList = ([], 7)) := Lib.hid (by unfold convZ; rw [if_pos (by omega)])
    rw [hn, hm] at HZ
    have HZ' := Lib.hid HZ
    clear HZ hz hn hm
    go_enter Try.func35, Try.ntmps35
    go_wp2_with fail
    refine (HZ'.out _).mono ?_; rintro e w1 ⟨rfl, hx1⟩
    go_wp2
    go_ret2
    exact ⟨by rw [HF.out]; rfl, hx1⟩
  · have HF : Hid (convZ f t s.data.toList = if (readZ f s.data.toList).2 = 0 then shapeZ t (readZ f s.data.toList).1 else ([], (readZ f s.data.toList).2)) := Lib.hid (by unfold convZ; rw [if_neg (by omega)])
    rw [hn, hm] at HZ
    have HZ' := Lib.hid HZ
    clear HZ hn hm
    go_enter Try.func35, Try.ntmps35
    go_wp2_with fail
    refine (HZ'.out _).mono ?_; rintro e w1 ⟨rfl, hx1⟩
    go_wp2_with fail
    refine (sys_read _ _ _ (by omega)).mono ?_; rintro e w2 ⟨A, c, rfl, hrow, hx2⟩
    generalize (readZ f s.data.toList).1 = xs at *
    generalize (readZ f s.data.toList).2 = er at *
    by_cases he : er = 0
    · subst he
      have HF2 : Hid (convZ f t s.data.toList = shapeZ t xs) := Lib.hid (by rw [HF.out, if_pos rfl])
      go_wp2_with fail
      refine (sys_shape _ _ _ xs _ hrow (by omega)).mono ?_; rintro e w3 ⟨rfl, hx3⟩
      go_wp2
      go_ret2
      exact ⟨by rw [HF2.out]; rfl, (hx1.trans hx2).trans hx3⟩
    · have HF2 : Hid (convZ f t s.data.toList = ([], er)) := Lib.hid (by rw [HF.out, if_neg he])
      have hne : (er != 0) = true := by simpa using he
      clear he
      go_wp2
      go_ret2
      exact ⟨by rw [HF2.out]; rfl, hx1.trans hx2⟩

set_option maxHeartbeats 4000000 in
set_option maxRecDepth 100000 in
theorem law09_SystemConverts (a b : Int) (A : Option Addr) (cap : Nat) (xs : List Int) (s t : ByteArray) (w : World) (n1 : -9223372036854775808 ≤ a) (n2 : a ≤ 9223372036854775807) (m1 : -9223372036854775808 ≤ b) (m2 : b ≤ 9223372036854775807)
    (hr : Row w A (xs.map (Value.int .i64))) (hl : xs.length ≤ maxLen) (hz : ∀ x ∈ xs, -9223372036854775808 ≤ x ∧ x ≤ 9223372036854775807) (hs : s.size ≤ maxLen) (ht : t.size ≤ maxLen) :
    Calls Try.prog 8 #[.int .i64 a, .int .i64 b, .slice A xs.length cap, .string s, .string t] w fun e w' => e = .returned (.bool true) ∧ Ext w w' := by
  have hok := goodL_ok xs 12
  have HG : ∀ n, shapeZ (nameOf n) (goodL xs 12) = (shapeB (zeroZ (nameOf n)) (goodL xs 12), 0) := fun n => by unfold shapeZ; rw [if_neg (by have := name_pos n; omega), hok]; rfl
  have HC : ∀ n m, convZ (nameOf n) (nameOf m) (shapeB (zeroZ (nameOf n)) (goodL xs 12)) = (shapeB (zeroZ (nameOf m)) (goodL xs 12), 0) := fun n m => by
    unfold convZ
    rw [if_neg (by have := name_pos m; omega), read_shape _ _ (name_pos n) hok, if_pos rfl, HG]
  have HGa := Lib.hid (HG a)
  have HGb := Lib.hid (HG b)
  have HCab := Lib.hid (HC a b)
  have HCba := Lib.hid (HC b a)
  have hsa := shapeB_le (zeroZ (nameOf a)) (goodL xs 12)
  have hsb := shapeB_le (zeroZ (nameOf b)) (goodL xs 12)
  have HGL := Lib.hid (goodL_len xs 12)
  have hft := fewB_size t 12
  have hza := name_pos a
  have hzb := name_pos b
  clear HG HC hok
  go_enter Try.func8, Try.ntmps8
  go_wp2_with fail
  refine (ref_name _ _ n1 n2).mono ?_; rintro e w1 ⟨rfl, hx1⟩
  go_wp2_with fail
  refine (ref_name _ _ m1 m2).mono ?_; rintro e w2 ⟨rfl, hx2⟩
  go_wp2_with fail
  refine (ref05_good _ _ xs 12 _ ((hr.below hx1 (Nat.le_refl _)).below hx2 (Nat.le_refl _)) hl (by decide) hz).mono ?_; rintro e w3 ⟨A1, d1, rfl, hown, hx3⟩
  rw [← HGL.out]
  have hgl : (goodL xs 12).length ≤ 12 := by rw [HGL.out]; omega
  generalize goodL xs 12 = own at *
  generalize nameOf a = na at *
  generalize nameOf b = nb at *
  clear hr hz HGL
  go_wp2_with fail
  refine (ref_shape _ _ _ own _ hown (by omega)).mono ?_; rintro e w4 ⟨rfl, hx4⟩
  rw [HGa.out]
  go_wp2_with fail
  refine (ref_shape _ _ _ own _ (hown.below hx4 (Nat.le_refl _)) (by omega)).mono ?_; rintro e w5 ⟨rfl, hx5⟩
  rw [HGb.out]
  generalize shapeB (zeroZ na) own = sa at *
  generalize shapeB (zeroZ nb) own = sb at *
  go_wp2_with fail
  refine (sys_convert _ _ _ _ (by simp [ByteArray.size]; omega)).mono ?_; rintro e w6 ⟨rfl, hx6⟩
  rw [HCab.out]
  go_wp2_with fail
  refine (sys_convert _ _ _ _ (by simp [ByteArray.size]; omega)).mono ?_; rintro e w7 ⟨rfl, hx7⟩
  rw [HCba.out]
  have hxa : Ext w w7 := (((((hx1.trans hx2).trans hx3).trans hx4).trans hx5).trans hx6).trans hx7
  clear hx1 hx2 hx3 hx4 hx5 hx6 hx7 HGa HGb HCab HCba hown
  go_wp2_with fail
  refine (few _ 12 _ hs (by decide)).mono ?_; rintro e w8 ⟨rfl, rfl⟩
  go_wp2_with fail
  refine (few _ 12 _ ht (by decide)).mono ?_; rintro e w8 ⟨rfl, rfl⟩
  generalize fewB s 12 = s' at *
  generalize fewB t 12 = t' at *
  go_wp2_with fail
  refine (sys_convert _ _ _ _ (by omega)).mono ?_; rintro e w8 ⟨rfl, hx8⟩
  go_wp2_with fail
  refine (sys_convert _ _ _ _ (by omega)).mono ?_; rintro e w9 ⟨rfl, hx9⟩
  go_wp2_with fail
  refine (ref_read _ _ _ (by omega)).mono ?_; rintro e w10 ⟨A2, c2, rfl, _, hx10⟩
  go_wp2_with fail
  refine (ref_read _ _ _ (by omega)).mono ?_; rintro e w11 ⟨A3, c3, rfl, _, hx11⟩
  go_wp2_with fail
  refine (ref_zero _ _).mono ?_; rintro e w12 ⟨rfl, hx12⟩
  have hxb : Ext w7 w12 := (((hx8.trans hx9).trans hx10).trans hx11).trans hx12
  clear hx8 hx9 hx10 hx11 hx12
  -- what the two errors are
  have hg : (convZ na s' t'.data.toList).2 = if zeroZ s' < 0 then 7 else (readZ na t'.data.toList).2 := by
    unfold convZ
    by_cases h : zeroZ s' < 0
    · rw [if_pos h, if_pos h]
    · rw [if_neg h, if_neg h]
      rcases readZ_cases na t'.data.toList with ⟨h1, _⟩ | ⟨_, ⟨h1, h2⟩ | h1⟩
      · omega
      · rw [if_pos h1, h1]; unfold shapeZ; rw [if_neg h, h2]; rfl
      · rw [if_neg (by omega)]
  have hh : (convZ s' nb t'.data.toList).2 = (readZ s' t'.data.toList).2 := by
    unfold convZ
    rw [if_neg (by omega)]
    rcases readZ_cases s' t'.data.toList with ⟨h0, h1⟩ | ⟨_, ⟨h1, h2⟩ | h1⟩
    · rw [if_neg (by omega)]
    · rw [if_pos h1, h1]; unfold shapeZ; rw [if_neg (by omega), h2]; rfl
    · rw [if_neg (by omega)]
  rw [hg, hh]
  clear hg hh
  generalize (readZ na t'.data.toList).2 = e1 at *
  generalize (readZ s' t'.data.toList).2 = e2 at *
  generalize zeroZ s' = zs at *
  by_cases h : zs < 0
  · rw [if_pos h]
    go_wp2_with fail
    refine (law09_lives _).mono ?_; rintro e w13 ⟨rfl, hx13⟩
    go_wp2
    go_ret
    exact ⟨rfl, (hxa.trans hxb).trans hx13⟩
  · rw [if_neg h]
    have h' : 0 ≤ zs := by omega
    clear h
    go_wp2_with fail
    refine (law09_lives _).mono ?_; rintro e w13 ⟨rfl, hx13⟩
    go_wp2
    go_ret
    exact ⟨rfl, (hxa.trans hxb).trans hx13⟩
end Go.Proofs.Ytbhmmodphjmlmaa.Sys
