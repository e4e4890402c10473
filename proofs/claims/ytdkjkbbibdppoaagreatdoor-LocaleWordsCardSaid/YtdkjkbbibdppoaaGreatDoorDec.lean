/- Plain law: the document's first character of a text is the model's own decoding. No program is walked here. -/
import Derived.Test.YtdkjkbbibdppoaaGreatDoorUtf
import Derived.Lib.TrimUEq
namespace Go.Proofs.YtdkjkbbibdppoaaGreatDoor.Dec
open Go.RowKit Utf
set_option linter.unusedVariables false
set_option linter.unusedSimpArgs false

/-- what bytes are worth -/
def offZ (n : Nat) : Int := if n = 2 then 192 else if n = 3 then 224 else if n = 4 then 240 else 0
def foldZ (c : Int) (l : List UInt8) : Int := l.foldl (fun c b => c * 64 + b.toNat - 128) c
def valueL (l : List UInt8) : Int := foldZ ((l.getD 0 0).toNat - offZ l.length) l.tail

theorem byte_eq {x : Int} {b : UInt8} (h0 : 0 ≤ x) (h1 : x < 256) : UInt8.ofNat x.toNat = b ↔ x = b.toNat := by
  constructor
  · intro h
    subst h
    rw [UInt8.toNat_ofNat', Nat.mod_eq_of_lt (by omega)]
    omega
  · intro h
    subst h
    simp

theorem lt256 (b : UInt8) : (b.toNat : Int) < 256 ∧ 0 ≤ (b.toNat : Int) := ⟨by have := b.toNat_lt; omega, by omega⟩

theorem enc1 {v : Int} {a : UInt8} : encB v = [a] ↔ (0 ≤ v ∧ v < 128 ∧ v = a.toNat) := by
  have ha := lt256 a
  unfold encB Lib.encodeRune Lib.encodeRuneZ
  by_cases hm : mayC v = true
  · rw [if_pos hm]
    have hm' := hm
    unfold mayC at hm'
    simp only [decide_eq_true_eq] at hm'
    split
    · simp only [List.map_cons, List.map_nil, List.cons.injEq, and_true]
      rw [byte_eq (by omega) (by omega)]
      omega
    · repeat' split
      all_goals simp
      all_goals omega
  · rw [if_neg hm]
    have hm' : mayC v = false := by simpa using hm
    unfold mayC at hm'
    simp only [decide_eq_false_iff_not] at hm'
    simp; omega
theorem enc2 {v : Int} {a b : UInt8} : encB v = [a, b] ↔ (128 ≤ v ∧ v < 2048 ∧ 192 + v / 64 = a.toNat ∧ 128 + v % 64 = b.toNat) := by
  have ha := lt256 a
  have hb := lt256 b
  unfold encB Lib.encodeRune Lib.encodeRuneZ
  by_cases hm : mayC v = true
  · rw [if_pos hm]
    have hm' := hm
    unfold mayC at hm'
    simp only [decide_eq_true_eq] at hm'
    split
    · simp; omega
    · split
      · simp only [List.map_cons, List.map_nil, List.cons.injEq, and_true]
        rw [byte_eq (by omega) (by omega), byte_eq (by omega) (by omega)]
        omega
      · repeat' split
        all_goals simp
        all_goals omega
  · rw [if_neg hm]
    have hm' : mayC v = false := by simpa using hm
    unfold mayC at hm'
    simp only [decide_eq_false_iff_not] at hm'
    simp; omega
theorem enc3 {v : Int} {a b c : UInt8} : encB v = [a, b, c] ↔ (2048 ≤ v ∧ v < 65536 ∧ (v < 55296 ∨ 57343 < v) ∧ 224 + v / 4096 = a.toNat ∧ 128 + v / 64 % 64 = b.toNat ∧ 128 + v % 64 = c.toNat) := by
  have ha := lt256 a
  have hb := lt256 b
  have hc := lt256 c
  unfold encB Lib.encodeRune Lib.encodeRuneZ
  by_cases hm : mayC v = true
  · rw [if_pos hm]
    have hm' := hm
    unfold mayC at hm'
    simp only [decide_eq_true_eq] at hm'
    split
    · simp; omega
    · split
      · simp; omega
      · split
        · simp only [List.map_cons, List.map_nil, List.cons.injEq, and_true]
          rw [byte_eq (by omega) (by omega), byte_eq (by omega) (by omega), byte_eq (by omega) (by omega)]
          omega
        · split
          · simp; omega
          · exfalso; omega
  · rw [if_neg hm]
    have hm' : mayC v = false := by simpa using hm
    unfold mayC at hm'
    simp only [decide_eq_false_iff_not] at hm'
    simp; omega
theorem enc4 {v : Int} {a b c d : UInt8} : encB v = [a, b, c, d] ↔ (65536 ≤ v ∧ v ≤ 1114111 ∧ 240 + v / 262144 = a.toNat ∧ 128 + v / 4096 % 64 = b.toNat ∧ 128 + v / 64 % 64 = c.toNat ∧ 128 + v % 64 = d.toNat) := by
  have ha := lt256 a
  have hb := lt256 b
  have hc := lt256 c
  have hd := lt256 d
  unfold encB Lib.encodeRune Lib.encodeRuneZ
  by_cases hm : mayC v = true
  · rw [if_pos hm]
    have hm' := hm
    unfold mayC at hm'
    simp only [decide_eq_true_eq] at hm'
    split
    · simp; omega
    · split
      · simp; omega
      · split
        · simp; omega
        · split
          · simp only [List.map_cons, List.map_nil, List.cons.injEq, and_true]
            rw [byte_eq (by omega) (by omega), byte_eq (by omega) (by omega), byte_eq (by omega) (by omega), byte_eq (by omega) (by omega)]
            omega
          · exfalso; omega
  · rw [if_neg hm]
    have hm' : mayC v = false := by simpa using hm
    unfold mayC at hm'
    simp only [decide_eq_false_iff_not] at hm'
    simp; omega

/-- the first so many bytes are a character's -/
def isEnc (l : List UInt8) (n : Nat) : Bool := decide (encB (valueL (l.take n)) = l.take n)

/-- the model's own: what, how wide, and whether it is one -/
def dec (l : List UInt8) : Int × Nat := (((Lib.decodeL l).1 : Int), (Lib.decodeL l).2)
def okL (l : List UInt8) : Bool := decide (¬ (dec l = (65533, 1)))

theorem decodeL_N (l : List UInt8) : Lib.decodeL l = Lib.decodeN l.length (l.getD 0 0).toNat (l.getD 1 0).toNat (l.getD 2 0).toNat (l.getD 3 0).toNat := by
  unfold Lib.decodeL
  rw [Lib.decode_N]
  simp

set_option maxHeartbeats 1000000 in
theorem dec_of_enc (l : List UInt8) (n : Nat) (h1 : 1 ≤ n) (h4 : n ≤ 4) (hl : n ≤ l.length) (h : isEnc l n = true) : dec l = (valueL (l.take n), n) ∧ okL l = true := by
  unfold isEnc at h
  simp only [decide_eq_true_eq] at h
  have hmain : Lib.decodeL l = ((valueL (l.take n)).toNat, n) ∧ 0 ≤ valueL (l.take n) ∧ (n = 1 → valueL (l.take n) < 128) := by
    rw [decodeL_N]
    match n, l, h1, h4, hl, h with
    | 1, a :: l, _, _, _, h =>
      have h := enc1.1 h
      have e : valueL ((a :: l).take 1) = a.toNat := by simp [valueL, foldZ, offZ]
      rw [e] at h ⊢
      refine ⟨?_, by omega, by omega⟩
      unfold Lib.decodeN
      rw [if_pos (by simp; omega)]
      simp
    | 2, a :: b :: l, _, _, _, h =>
      have h := enc2.1 h
      have e : valueL ((a :: b :: l).take 2) = (a.toNat - 192) * 64 + b.toNat - 128 := by simp [valueL, foldZ, offZ]
      rw [e] at h ⊢
      have ha := lt256 a; have hb := lt256 b
      generalize ha' : a.toNat = x at *
      generalize hb' : b.toNat = y at *
      refine ⟨?_, by omega, by omega⟩
      simp only [List.getD_cons_zero, List.getD_cons_succ, ha', hb', List.length_cons]
      unfold Lib.decodeN
      rw [if_neg (by omega), if_pos (by omega), if_pos (by omega)]
      simp only [Prod.mk.injEq, and_true]
      omega
    | 3, a :: b :: c :: l, _, _, _, h =>
      have h := enc3.1 h
      have e : valueL ((a :: b :: c :: l).take 3) = ((a.toNat - 224) * 64 + b.toNat - 128) * 64 + c.toNat - 128 := by simp [valueL, foldZ, offZ]
      rw [e] at h ⊢
      have ha := lt256 a; have hb := lt256 b; have hc := lt256 c
      generalize ha' : a.toNat = x at *
      generalize hb' : b.toNat = y at *
      generalize hc' : c.toNat = z at *
      refine ⟨?_, by omega, by omega⟩
      simp only [List.getD_cons_zero, List.getD_cons_succ, ha', hb', hc', List.length_cons]
      unfold Lib.decodeN
      rw [if_neg (by omega), if_neg (by omega), if_pos (by omega), if_pos (by omega)]
      simp only [Prod.mk.injEq, and_true]
      omega
    | 4, a :: b :: c :: d :: l, _, _, _, h =>
      have h := enc4.1 h
      have e : valueL ((a :: b :: c :: d :: l).take 4) = (((a.toNat - 240) * 64 + b.toNat - 128) * 64 + c.toNat - 128) * 64 + d.toNat - 128 := by simp [valueL, foldZ, offZ]
      rw [e] at h ⊢
      have ha := lt256 a; have hb := lt256 b; have hc := lt256 c; have hd := lt256 d
      generalize ha' : a.toNat = x at *
      generalize hb' : b.toNat = y at *
      generalize hc' : c.toNat = z at *
      generalize hd' : d.toNat = u at *
      refine ⟨?_, by omega, by omega⟩
      simp only [List.getD_cons_zero, List.getD_cons_succ, ha', hb', hc', hd', List.length_cons]
      unfold Lib.decodeN
      rw [if_neg (by omega), if_neg (by omega), if_neg (by omega), if_pos (by omega), if_pos (by omega)]
      simp only [Prod.mk.injEq, and_true]
      omega
  obtain ⟨hd, h0, h1'⟩ := hmain
  have hdec : dec l = (valueL (l.take n), n) := by
    unfold dec
    rw [hd]
    simp only [Prod.mk.injEq, and_true]
    omega
  refine ⟨hdec, ?_⟩
  unfold okL
  rw [hdec]
  simp only [decide_eq_true_eq, Prod.mk.injEq, not_and]
  intro h65 hn
  have := h1' hn
  omega

set_option maxHeartbeats 2000000 in
theorem dec_of_none (l : List UInt8) (hl : l ≠ []) (h : ∀ n, 1 ≤ n → n ≤ 4 → n ≤ l.length → isEnc l n = false) : dec l = (65533, 1) ∧ okL l = false := by
  have hmain : Lib.decodeL l = (65533, 1) := by
    have h1 : ¬ (encB (valueL (l.take 1)) = l.take 1) := by
      have := h 1 (by omega) (by omega) (by cases l; exact absurd rfl hl; simp)
      unfold isEnc at this; simpa using this
    have h2 : 2 ≤ l.length → ¬ (encB (valueL (l.take 2)) = l.take 2) := fun hh => by
      have := h 2 (by omega) (by omega) hh
      unfold isEnc at this; simpa using this
    have h3 : 3 ≤ l.length → ¬ (encB (valueL (l.take 3)) = l.take 3) := fun hh => by
      have := h 3 (by omega) (by omega) hh
      unfold isEnc at this; simpa using this
    have h4 : 4 ≤ l.length → ¬ (encB (valueL (l.take 4)) = l.take 4) := fun hh => by
      have := h 4 (by omega) (by omega) hh
      unfold isEnc at this; simpa using this
    clear h
    rw [decodeL_N]
    match l, hl, h1, h2, h3, h4 with
    | [a], _, h1, _, _, _ =>
      have e1 : valueL ([a].take 1) = a.toNat := by simp [valueL, foldZ, offZ]
      rw [e1] at h1
      have h1 := mt enc1.2 h1
      have ha := lt256 a
      generalize ha' : a.toNat = x at *
      simp only [List.getD_cons_zero, ha', List.length_cons, List.length_nil]
      unfold Lib.decodeN
      rw [if_neg (by omega), if_neg (by omega), if_neg (by omega), if_neg (by omega)]
    | [a, b], _, h1, h2, _, _ =>
      have e1 : valueL ([a, b].take 1) = a.toNat := by simp [valueL, foldZ, offZ]
      have e2 : valueL ([a, b].take 2) = (a.toNat - 192) * 64 + b.toNat - 128 := by simp [valueL, foldZ, offZ]
      have h2 := h2 (by simp)
      rw [e1] at h1
      rw [e2] at h2
      have h1 := mt enc1.2 h1
      have h2 := mt enc2.2 h2
      have ha := lt256 a; have hb := lt256 b
      generalize ha' : a.toNat = x at *
      generalize hb' : b.toNat = y at *
      simp only [List.getD_cons_zero, List.getD_cons_succ, ha', hb', List.length_cons, List.length_nil]
      unfold Lib.decodeN
      rw [if_neg (by omega)]
      by_cases c2 : x / 32 = 6 ∧ (1 < 0 + 1 + 1 ∧ y / 64 = 2)
      · rw [if_pos c2, if_neg (by omega)]
      · rw [if_neg c2, if_neg (by omega), if_neg (by omega)]
    | [a, b, c], _, h1, h2, h3, _ =>
      have e1 : valueL ([a, b, c].take 1) = a.toNat := by simp [valueL, foldZ, offZ]
      have e2 : valueL ([a, b, c].take 2) = (a.toNat - 192) * 64 + b.toNat - 128 := by simp [valueL, foldZ, offZ]
      have e3 : valueL ([a, b, c].take 3) = ((a.toNat - 224) * 64 + b.toNat - 128) * 64 + c.toNat - 128 := by simp [valueL, foldZ, offZ]
      have h2 := h2 (by simp)
      have h3 := h3 (by simp)
      rw [e1] at h1
      rw [e2] at h2
      rw [e3] at h3
      have h1 := mt enc1.2 h1
      have h2 := mt enc2.2 h2
      have h3 := mt enc3.2 h3
      have ha := lt256 a; have hb := lt256 b; have hc := lt256 c
      generalize ha' : a.toNat = x at *
      generalize hb' : b.toNat = y at *
      generalize hc' : c.toNat = z at *
      simp only [List.getD_cons_zero, List.getD_cons_succ, ha', hb', hc', List.length_cons, List.length_nil]
      unfold Lib.decodeN
      rw [if_neg (by omega)]
      by_cases c2 : x / 32 = 6 ∧ (1 < 0 + 1 + 1 + 1 ∧ y / 64 = 2)
      · rw [if_pos c2, if_neg (by omega)]
      · rw [if_neg c2]
        by_cases c3 : x / 16 = 14 ∧ (1 < 0 + 1 + 1 + 1 ∧ y / 64 = 2) ∧ (2 < 0 + 1 + 1 + 1 ∧ z / 64 = 2)
        · rw [if_pos c3, if_neg (by omega)]
        · rw [if_neg c3, if_neg (by omega)]
    | a :: b :: c :: d :: t, _, h1, h2, h3, h4 =>
      have e1 : valueL ((a :: b :: c :: d :: t).take 1) = a.toNat := by simp [valueL, foldZ, offZ]
      have e2 : valueL ((a :: b :: c :: d :: t).take 2) = (a.toNat - 192) * 64 + b.toNat - 128 := by simp [valueL, foldZ, offZ]
      have e3 : valueL ((a :: b :: c :: d :: t).take 3) = ((a.toNat - 224) * 64 + b.toNat - 128) * 64 + c.toNat - 128 := by simp [valueL, foldZ, offZ]
      have e4 : valueL ((a :: b :: c :: d :: t).take 4) = (((a.toNat - 240) * 64 + b.toNat - 128) * 64 + c.toNat - 128) * 64 + d.toNat - 128 := by simp [valueL, foldZ, offZ]
      have h2 := h2 (by simp)
      have h3 := h3 (by simp)
      have h4 := h4 (by simp)
      rw [e1] at h1
      rw [e2] at h2
      rw [e3] at h3
      rw [e4] at h4
      have h1 := mt enc1.2 h1
      have h2 := mt enc2.2 h2
      have h3 := mt enc3.2 h3
      have h4 := mt enc4.2 h4
      have ha := lt256 a; have hb := lt256 b; have hc := lt256 c; have hd := lt256 d
      generalize ha' : a.toNat = x at *
      generalize hb' : b.toNat = y at *
      generalize hc' : c.toNat = z at *
      generalize hd' : d.toNat = u at *
      simp only [List.getD_cons_zero, List.getD_cons_succ, ha', hb', hc', hd', List.length_cons]
      have hn : 4 ≤ t.length + 1 + 1 + 1 + 1 := by omega
      generalize t.length + 1 + 1 + 1 + 1 = m at *
      unfold Lib.decodeN
      rw [if_neg (by omega)]
      by_cases c2 : x / 32 = 6 ∧ (1 < m ∧ y / 64 = 2)
      · rw [if_pos c2, if_neg (by omega)]
      · rw [if_neg c2]
        by_cases c3 : x / 16 = 14 ∧ (1 < m ∧ y / 64 = 2) ∧ (2 < m ∧ z / 64 = 2)
        · rw [if_pos c3, if_neg (by omega)]
        · rw [if_neg c3]
          by_cases c4 : x / 8 = 30 ∧ (1 < m ∧ y / 64 = 2) ∧ (2 < m ∧ z / 64 = 2) ∧ (3 < m ∧ u / 64 = 2)
          · rw [if_pos c4, if_neg (by omega)]
          · rw [if_neg c4]
  have hdec : dec l = (65533, 1) := by unfold dec; rw [hmain]; rfl
  exact ⟨hdec, by unfold okL; rw [hdec]; rfl⟩
end Go.Proofs.YtdkjkbbibdppoaaGreatDoor.Dec
