/- Walks: the laws SystemShapes, SystemConverts, SystemReads. -/
import Derived.Test.YtbhmmodphjmlmaaSys6
namespace Go.Proofs.Ytbhmmodphjmlmaa.Sys
open Go.RowKit Utf Small Build All Dec
set_option linter.unusedVariables false
set_option linter.unusedSimpArgs false

theorem ofNat_toNat {x : Int} (h0 : 0 ≤ x) (h1 : x < 256) : (((UInt8.ofNat x.toNat).toNat : Nat) : Int) = x := by
  rw [UInt8.toNat_ofNat', Nat.mod_eq_of_lt (by omega)]; omega
theorem value_enc {c : Int} (h : mayC c = true) : valueL (encB c) = c := by
  have hm := h
  unfold mayC at hm
  simp only [decide_eq_true_eq] at hm
  rw [encB_of h _ rfl]
  by_cases h1 : c ≤ 127
  · rw [Lib.encodeRuneZ_one (by omega) h1]
    simp only [bytesZ, List.map_cons, List.map_nil, valueL, foldZ, offZ, List.getD_cons_zero, List.length_cons, List.length_nil, List.tail_cons, List.foldl_nil]
    rw [ofNat_toNat (by omega) (by omega)]; simp
  by_cases h2 : c ≤ 2047
  · rw [Lib.encodeRuneZ_two (by omega) h2]
    simp only [bytesZ, List.map_cons, List.map_nil, valueL, foldZ, offZ, List.getD_cons_zero, List.length_cons, List.length_nil, List.tail_cons, List.foldl_cons, List.foldl_nil]
    rw [ofNat_toNat (by omega) (by omega), ofNat_toNat (by omega) (by omega)]; simp; omega
  by_cases h3 : c ≤ 65535
  · rw [Lib.encodeRuneZ_three (by omega)]
    simp only [bytesZ, List.map_cons, List.map_nil, valueL, foldZ, offZ, List.getD_cons_zero, List.length_cons, List.length_nil, List.tail_cons, List.foldl_cons, List.foldl_nil]
    rw [ofNat_toNat (by omega) (by omega), ofNat_toNat (by omega) (by omega), ofNat_toNat (by omega) (by omega)]; simp; omega
  · rw [Lib.encodeRuneZ_four (by omega) (by omega)]
    simp only [bytesZ, List.map_cons, List.map_nil, valueL, foldZ, offZ, List.getD_cons_zero, List.length_cons, List.length_nil, List.tail_cons, List.foldl_cons, List.foldl_nil]
    rw [ofNat_toNat (by omega) (by omega), ofNat_toNat (by omega) (by omega), ofNat_toNat (by omega) (by omega), ofNat_toNat (by omega) (by omega)]; simp; omega
theorem encB_len {c : Int} (h : mayC c = true) : 1 ≤ (encB c).length ∧ (encB c).length ≤ 4 := by
  unfold encB
  rw [if_pos h]
  simpa [Lib.encodeRune] using Lib.encodeRuneZ_length c
theorem dec_enc {c : Int} (h : mayC c = true) (rest : List UInt8) : dec (encB c ++ rest) = (c, (encB c).length) ∧ okL (encB c ++ rest) = true := by
  have hl := encB_len h
  have ht : (encB c ++ rest).take (encB c).length = encB c := by simp
  have := dec_of_enc (encB c ++ rest) (encB c).length hl.1 hl.2 (by simp) (by unfold isEnc; rw [ht, value_enc h]; simp)
  rw [ht, value_enc h] at this
  exact this
theorem chars_enc {c : Int} (h : mayC c = true) (rest : List UInt8) : charsL (encB c ++ rest) = c :: charsL rest := by
  have hl := encB_len h
  rw [chars_cons (by intro e; have := congrArg List.length e; simp at this; have := hl.1; simp_all), (dec_enc h rest).1]
  simp
theorem chars_flat (f : Int → Int) : ∀ xs : List Int, (∀ x ∈ xs, mayC (f x) = true) → charsL (xs.flatMap fun x => encB (f x)) = xs.map f
  | [], _ => rfl
  | x :: xs, h => by
    rw [List.flatMap_cons, chars_enc (h x (by simp)), chars_flat f xs (fun y hy => h y (by simp [hy])), List.map_cons]

theorem read_shape (s : ByteArray) (xs : List Int) (h : 0 ≤ zeroZ s) (hd : digOk xs = true) : readZ s (shapeB (zeroZ s) xs) = (xs, 0) := by
  have hx : ∀ d ∈ xs, 0 ≤ d ∧ d ≤ 9 := by
    unfold digOk at hd
    rw [List.all_eq_true] at hd
    intro d hd'
    simpa using hd d hd'
  have hc : charsL (shapeB (zeroZ s) xs) = xs.map fun d => zeroZ s + d := chars_flat (fun d => zeroZ s + d) xs (fun d hd' => mayC_sys s d h (hx d hd').1 (hx d hd').2)
  unfold readZ
  rw [if_neg (by omega), hc]
  have hv : ∀ d ∈ xs, valZ (zeroZ s) (zeroZ s + d) = d := fun d hd' => by
    have := hx d hd'
    rw [valZ_in h (by omega) (by omega)]; omega
  rw [readC_good]
  · congr 1
    rw [List.map_map]
    have : ∀ d ∈ xs, (valZ (zeroZ s) ∘ fun d => zeroZ s + d) d = id d := fun d hd' => hv d hd'
    rw [List.map_congr_left this, List.map_id]
  · rw [List.all_eq_true]
    intro c hc'
    obtain ⟨d, hd', rfl⟩ := List.mem_map.1 hc'
    unfold goodP
    rw [hv d hd']
    simpa using (hx d hd').1
theorem name_pos (n : Int) : 0 ≤ zeroZ (nameOf n) := by
  obtain ⟨j, hj, e1, e2⟩ := nameOf_form n
  rw [e2]; exact zerosL_pos ⟨j, hj⟩
theorem goodL_len (xs : List Int) (m : Nat) : (goodL xs m).length = min xs.length m := by unfold goodL; simp; omega

set_option maxHeartbeats 4000000 in
set_option maxRecDepth 100000 in
theorem law09_SystemShapes (n : Int) (A : Option Addr) (cap : Nat) (xs : List Int) (s : ByteArray) (w : World) (n1 : -9223372036854775808 ≤ n) (n2 : n ≤ 9223372036854775807)
    (hr : Row w A (xs.map (Value.int .i64))) (hl : xs.length ≤ cap) (hm : cap ≤ maxLen) (hz : ∀ x ∈ xs, -9223372036854775808 ≤ x ∧ x ≤ 9223372036854775807) (hs : s.size ≤ maxLen) :
    Calls Try.prog 6 #[.int .i64 n, .slice A xs.length cap, .string s] w fun e w' => e = .returned (.bool true) ∧ Ext w w' := by
  have HG : Hid (shapeZ (nameOf n) (goodL xs 20) = (shapeB (zeroZ (nameOf n)) (goodL xs 20), 0)) := Lib.hid (by unfold shapeZ; rw [if_neg (by have := name_pos n; omega), goodL_ok]; rfl)
  have HR := Lib.hid (read_shape (nameOf n) (goodL xs 20) (name_pos n) (goodL_ok xs 20))
  have HGL := Lib.hid (goodL_len xs 20)
  have hsl := shapeB_le (zeroZ (nameOf n)) (goodL xs 20)
  rw [HGL.out] at hsl
  have htk : (xs.take 20).length = min xs.length 20 := by simp; omega
  have HTK := Lib.hid htk
  clear htk
  have hrt : Row w A ((xs.take 20).map (Value.int .i64)) := by rw [List.map_take]; exact hr.take
  unfold maxLen at hm
  go_enter Try.func6, Try.ntmps6
  go_wp2_with fail
  refine (few _ 12 _ hs (by decide)).mono ?_; rintro e w1 ⟨rfl, rfl⟩
  generalize fewB s 12 = t at *
  go_wp2_with fail
  refine (ref_name _ _ n1 n2).mono ?_; rintro e w1 ⟨rfl, hx1⟩
  have hm20 : (min (xs.length : Int) 20).toNat = (xs.take 20).length := by rw [HTK.out]; omega
  have HM20 := Lib.hid hm20
  clear hm20
  have hl20 : (xs.take 20).length ≤ 20 := by rw [HTK.out]; omega
  go_wp2_with fail
  rw [HM20.out]
  refine (ref05_good _ _ xs 20 _ (hr.below hx1 (Nat.le_refl _)) (by unfold maxLen; omega) (by decide) hz).mono ?_; rintro e w2 ⟨A1, d1, rfl, hown, hx2⟩
  rw [← HGL.out]
  have hrt2 := (hrt.below hx1 (Nat.le_refl _)).below hx2 (Nat.le_refl _)
  have hgl : (goodL xs 20).length ≤ 20 := by rw [HGL.out]; omega
  clear hrt hr hz HTK HGL HM20
  generalize goodL xs 20 = own at *
  generalize xs.take 20 = raw at *
  generalize hnm : nameOf n = nm at *
  clear hnm
  go_wp2_with fail
  refine (sys_shape _ _ _ own _ hown (by omega)).mono ?_; rintro e w3 ⟨rfl, hx3⟩
  rw [HG.out]
  go_wp2_with fail
  refine (ref_shape _ _ _ own _ (hown.below hx3 (Nat.le_refl _)) (by omega)).mono ?_; rintro e w4 ⟨rfl, hx4⟩
  rw [HG.out]
  have hown4 := (hown.below hx3 (Nat.le_refl _)).below hx4 (Nat.le_refl _)
  have hraw4 := (hrt2.below hx3 (Nat.le_refl _)).below hx4 (Nat.le_refl _)
  have hxa : Ext w w4 := ((hx1.trans hx2).trans hx3).trans hx4
  clear hown hrt2 hx1 hx2 hx3 hx4
  generalize shapeB (zeroZ nm) own = sb at *
  go_wp2_with fail
  refine (sys_shape _ _ _ raw _ hraw4 (by omega)).mono ?_; rintro e w5 ⟨rfl, hx5⟩
  go_wp2_with fail
  refine (ref_shape _ _ _ raw _ (hraw4.below hx5 (Nat.le_refl _)) (by omega)).mono ?_; rintro e w6 ⟨rfl, hx6⟩
  generalize (shapeZ nm raw).1 = r1 at *
  generalize (shapeZ nm raw).2 = r2 at *
  have hraw6 := (hraw4.below hx5 (Nat.le_refl _)).below hx6 (Nat.le_refl _)
  go_wp2_with fail
  refine (sys_shape _ _ _ raw _ hraw6 (by omega)).mono ?_; rintro e w7 ⟨rfl, hx7⟩
  go_wp2_with fail
  refine (ref_shape _ _ _ raw _ (hraw6.below hx7 (Nat.le_refl _)) (by omega)).mono ?_; rintro e w8 ⟨rfl, hx8⟩
  generalize (shapeZ t raw).1 = r3 at *
  generalize (shapeZ t raw).2 = r4 at *
  go_wp2_with fail
  refine (sys_read _ _ _ (by simp [ByteArray.size]; omega)).mono ?_; rintro e w9 ⟨A2, d2, rfl, hback, hx9⟩
  rw [HR.out] at hback ⊢
  have hxb : Ext w4 w9 := (((hx5.trans hx6).trans hx7).trans hx8).trans hx9
  have hown9 := hown4.below hxb (Nat.le_refl _)
  clear hx5 hx6 hx7 hx8 hx9 hown4 hraw4 hraw6
  go_wp2_with fail
  refine (same _ _ _ _ own own _ hback hown9 (by unfold maxLen; omega) (by unfold maxLen; omega)).mono ?_; rintro e w10 ⟨rfl, hx10⟩
  rw [decide_eq_true (rfl : own = own)]
  go_wp2_with fail
  refine (law09_lives _).mono ?_; rintro e w11 ⟨rfl, hx11⟩
  go_wp2
  go_ret
  exact ⟨rfl, ((hxa.trans hxb).trans hx10).trans hx11⟩
end Go.Proofs.Ytbhmmodphjmlmaa.Sys
