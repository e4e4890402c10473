/- What is read of what was written: characters' bytes side by side are read as the characters. -/
import Derived.Test.YtdkjkbbibdppoaaGreatDoorAll
import Derived.Test.YtdkjkbbibdppoaaGreatDoorDec
namespace Go.Proofs.YtdkjkbbibdppoaaGreatDoor.EncC
open Go.RowKit Utf All Small Dec
set_option linter.unusedVariables false
set_option linter.unusedSimpArgs false

theorem ofNat_toNat {x : Int} (h0 : 0 ≤ x) (h1 : x < 256) : (((UInt8.ofNat x.toNat).toNat : Nat) : Int) = x := by
  rw [UInt8.toNat_ofNat', Nat.mod_eq_of_lt (by omega)]; omega
theorem value_enc {c : Int} (h : mayC c = true) : valueL (encB c) = c := by
  have hm := h
  unfold mayC at hm
  simp only [decide_eq_true_eq] at hm
  rw [encB_of h _ rfl]
  by_cases h1 : c ≤ 127
  · rw [Lib.encodeRuneZ_one (by omega) h1]
    simp only [bytesZ, List.map_cons, List.map_nil, valueL, foldZ, offZ, List.getD_cons_zero, List.length_cons, List.length_nil, List.tail_cons, List.foldl_nil]
    rw [ofNat_toNat (by omega) (by omega)]; simp
  by_cases h2 : c ≤ 2047
  · rw [Lib.encodeRuneZ_two (by omega) h2]
    simp only [bytesZ, List.map_cons, List.map_nil, valueL, foldZ, offZ, List.getD_cons_zero, List.length_cons, List.length_nil, List.tail_cons, List.foldl_cons, List.foldl_nil]
    rw [ofNat_toNat (by omega) (by omega), ofNat_toNat (by omega) (by omega)]; simp; omega
  by_cases h3 : c ≤ 65535
  · rw [Lib.encodeRuneZ_three (by omega)]
    simp only [bytesZ, List.map_cons, List.map_nil, valueL, foldZ, offZ, List.getD_cons_zero, List.length_cons, List.length_nil, List.tail_cons, List.foldl_cons, List.foldl_nil]
    rw [ofNat_toNat (by omega) (by omega), ofNat_toNat (by omega) (by omega), ofNat_toNat (by omega) (by omega)]; simp; omega
  · rw [Lib.encodeRuneZ_four (by omega) (by omega)]
    simp only [bytesZ, List.map_cons, List.map_nil, valueL, foldZ, offZ, List.getD_cons_zero, List.length_cons, List.length_nil, List.tail_cons, List.foldl_cons, List.foldl_nil]
    rw [ofNat_toNat (by omega) (by omega), ofNat_toNat (by omega) (by omega), ofNat_toNat (by omega) (by omega), ofNat_toNat (by omega) (by omega)]; simp; omega
theorem encB_len {c : Int} (h : mayC c = true) : 1 ≤ (encB c).length ∧ (encB c).length ≤ 4 := by
  unfold encB
  rw [if_pos h]
  simpa [Lib.encodeRune] using Lib.encodeRuneZ_length c
theorem dec_enc {c : Int} (h : mayC c = true) (rest : List UInt8) : dec (encB c ++ rest) = (c, (encB c).length) ∧ okL (encB c ++ rest) = true := by
  have hl := encB_len h
  have ht : (encB c ++ rest).take (encB c).length = encB c := by simp
  have := dec_of_enc (encB c ++ rest) (encB c).length hl.1 hl.2 (by simp) (by unfold isEnc; rw [ht, value_enc h]; simp)
  rw [ht, value_enc h] at this
  exact this
theorem chars_enc {c : Int} (h : mayC c = true) (rest : List UInt8) : charsL (encB c ++ rest) = c :: charsL rest := by
  have hl := encB_len h
  rw [chars_cons (by intro e; have := congrArg List.length e; simp at this; have := hl.1; simp_all), (dec_enc h rest).1]
  simp
theorem chars_flat (f : Int → Int) : ∀ xs : List Int, (∀ x ∈ xs, mayC (f x) = true) → charsL (xs.flatMap fun x => encB (f x)) = xs.map f
  | [], _ => rfl
  | x :: xs, h => by
    rw [List.flatMap_cons, chars_enc (h x (by simp)), chars_flat f xs (fun y hy => h y (by simp [hy])), List.map_cons]

theorem chars_encs : ∀ (xs : List Int) (rest : List UInt8), (∀ x ∈ xs, mayC x = true) → charsL (xs.flatMap encB ++ rest) = xs ++ charsL rest
  | [], rest, _ => rfl
  | x :: xs, rest, h => by
    rw [List.flatMap_cons, List.append_assoc, chars_enc (h x (by simp)), chars_encs xs rest (fun y hy => h y (by simp [hy])), List.cons_append]
theorem dec_may (l : List UInt8) : mayC (dec l).1 = true := by
  have h : (dec l).1 = ((Lib.decodeN l.length (l.getD 0 0).toNat (l.getD 1 0).toNat (l.getD 2 0).toNat (l.getD 3 0).toNat).1 : Int) := by rw [← decodeL_N]; rfl
  rw [h]
  generalize (l.getD 0 0).toNat = a
  generalize (l.getD 1 0).toNat = b
  generalize (l.getD 2 0).toNat = c
  generalize (l.getD 3 0).toNat = d
  unfold mayC
  rw [decide_eq_true_eq]
  unfold Lib.decodeN
  repeat' split
  all_goals (simp only; omega)
theorem charsL_may (l : List UInt8) : ∀ x ∈ charsL l, mayC x = true := by
  have : ∀ (n : Nat) (l : List UInt8), ∀ x ∈ (piecesN n l).map (·.1), mayC x = true := by
    intro n
    induction n with
    | zero => intro l x hx; simp [piecesN] at hx
    | succ n ih =>
      intro l x hx
      unfold piecesN at hx
      split at hx
      · simp at hx
      · simp only [List.map_cons, List.mem_cons] at hx
        rcases hx with rfl | hx
        · exact dec_may l
        · exact ih _ _ hx
  exact this _ l
end Go.Proofs.YtdkjkbbibdppoaaGreatDoor.EncC
