/- Patterns of numbers, plain laws: a literal of whatever signs, between quotes and as it is printed, is read as itself. No program. -/
import Derived.Test.YtbnlbkmihemicaaDoorPatL
namespace Go.Proofs.YtbnlbkmihemicaaDoor.Pat
open Go.RowKit Utf All Small Strs Build EncC Dec
set_option linter.unusedVariables false
set_option linter.unusedSimpArgs false

def lit (c : Int) : Pc := (0, encB c)
def dblC (l : List Int) : List Int := l.flatMap fun c => if c = 39 then [39, 39] else [c]
theorem dblC_cons (c : Int) (l : List Int) : dblC (c :: l) = (if c = 39 then [39, 39] else [c]) ++ dblC l := rfl
def escRunC (l : List Int) : List Int := if l.any (· != 39) then 39 :: (dblC l ++ [39]) else dblC l
def escC : List Int → List Int → List Int
  | [], run => escRunC run
  | c :: r, run => if special c then escC r (run ++ [c]) else escRunC run ++ c :: escC r []

/-- within a quotation -/
theorem tok_in : ∀ (l rest : List Int), noQ rest = true → tokS true false (dblC l ++ 39 :: rest) = (tokS false false rest).map (l.map lit ++ ·)
  | [], rest, h => by
    show tokS true false (39 :: rest) = _
    rw [tokS_quote, tokS_toggle true rest (noQ_ne h)]; simp
  | c :: l, rest, h => by
    rw [dblC_cons]
    by_cases hc : c = 39
    · subst hc
      rw [if_pos rfl]
      show tokS true false (39 :: 39 :: (dblC l ++ 39 :: rest)) = _
      rw [tokS_quote, tokS, if_pos rfl, tok_in l rest h, cons_app]; rfl
    · rw [if_neg hc]
      show tokS true false (c :: (dblC l ++ 39 :: rest)) = _
      rw [tokS, if_neg hc, if_pos rfl, tok_in l rest h, cons_app]; rfl
/-- behind the quote that opens one -/
theorem tok_open : ∀ (l rest : List Int), noQ rest = true → l.any (· != 39) = true → tokS false true (dblC l ++ 39 :: rest) = (tokS false false rest).map (l.map lit ++ ·)
  | [], rest, h, ho => by simp at ho
  | c :: l, rest, h, ho => by
    rw [dblC_cons]
    by_cases hc : c = 39
    · subst hc
      rw [if_pos rfl]
      show tokS false true (39 :: 39 :: (dblC l ++ 39 :: rest)) = _
      have ho' : l.any (· != 39) = true := by simpa using ho
      rw [tokS, if_pos rfl, tokS_quote, tok_open l rest h ho', cons_app]; rfl
    · rw [if_neg hc]
      show tokS false true (c :: (dblC l ++ 39 :: rest)) = _
      rw [tokS, if_neg hc]
      simp only [Bool.false_eq_true, if_false]
      rw [tok_in l rest h, cons_app]; rfl
theorem tok_quotes : ∀ (l rest : List Int), l.any (· != 39) = false → tokS false false (dblC l ++ rest) = (tokS false false rest).map (l.map lit ++ ·)
  | [], rest, ho => by simp [dblC]
  | c :: l, rest, ho => by
    have hc : c = 39 := by simp at ho; exact ho.1
    have ho' : l.any (· != 39) = false := by simp at ho ⊢; exact ho.2
    subst hc
    rw [dblC_cons, if_pos rfl]
    show tokS false false (39 :: 39 :: (dblC l ++ rest)) = _
    rw [tokS_quote, tokS, if_pos rfl, tok_quotes l rest ho', cons_app]; rfl
theorem tok_run (l rest : List Int) (h : noQ rest = true) : tokS false false (escRunC l ++ rest) = (tokS false false rest).map (l.map lit ++ ·) := by
  unfold escRunC
  cases ho : l.any (· != 39)
  · exact tok_quotes l rest ho
  · rw [if_pos rfl]
    have e : 39 :: (dblC l ++ [39]) ++ rest = 39 :: (dblC l ++ 39 :: rest) := by simp
    rw [e, tokS_quote, tok_open l rest h ho]
theorem special_no {c : Int} (h : special c = false) : c ≠ 39 ∧ kindL c = 0 := by
  unfold special at h
  simp only [Bool.or_eq_false_iff, decide_eq_false_iff_not, ne_eq, Decidable.not_not] at h
  exact h
theorem tok_esc : ∀ (cs run rest : List Int), noQ rest = true → tokS false false (escC cs run ++ rest) = (tokS false false rest).map ((run ++ cs).map lit ++ ·)
  | [], run, rest, h => by rw [escC, tok_run run rest h, List.append_nil]
  | c :: r, run, rest, h => by
    rw [escC]
    cases hs : special c
    · obtain ⟨h39, hk⟩ := special_no hs
      simp only [Bool.false_eq_true, if_false]
      rw [List.append_assoc, tok_run run _ (by simpa [noQ] using h39)]
      show (tokS false false (c :: (escC r [] ++ rest))).map _ = _
      rw [tokS, if_neg h39, hk]
      simp only [Bool.false_eq_true, if_false]
      rw [if_neg (by decide), tok_esc r [] rest h, cons_app, map_app]
      congr 1
      funext m
      simp [lit]
    · simp only [if_true]
      rw [tok_esc r (run ++ [c]) rest h]
      simp
/-! ### the bytes -/
theorem enc_39 : encB 39 = [39] := by decide
theorem no39 {c : Int} (hm : mayC c = true) (hc : c ≠ 39) : ∀ b ∈ encB c, b ≠ 39 := by
  have hm' := hm
  unfold mayC at hm'
  simp only [decide_eq_true_eq] at hm'
  rw [encB_of hm _ rfl]
  have key : ∀ ns : List Int, (∀ n ∈ ns, 0 ≤ n ∧ n < 256 ∧ n ≠ 39) → ∀ b ∈ bytesZ ns, b ≠ 39 := by
    intro ns h b hb
    obtain ⟨n, hn, rfl⟩ := List.mem_map.1 hb
    obtain ⟨h0, h1, h2⟩ := h n hn
    intro e
    have := congrArg UInt8.toNat e
    have h3 := ofNat_toNat h0 h1
    rw [this] at h3
    simp at h3; omega
  apply key
  by_cases h1 : c ≤ 127
  · rw [Lib.encodeRuneZ_one (by omega) h1]; intro n hn; simp at hn; omega
  by_cases h2 : c ≤ 2047
  · rw [Lib.encodeRuneZ_two (by omega) h2]; intro n hn; simp at hn; omega
  by_cases h3 : c ≤ 65535
  · rw [Lib.encodeRuneZ_three (by omega)]; intro n hn; simp at hn; omega
  · rw [Lib.encodeRuneZ_four (by omega) (by omega)]; intro n hn; simp at hn; omega
theorem dblB_app (l m : List UInt8) : dblB (l ++ m) = dblB l ++ dblB m := List.flatMap_append
theorem dblB_no (l : List UInt8) (h : ∀ b ∈ l, b ≠ 39) : dblB l = l := by
  induction l with
  | nil => rfl
  | cons b l ih =>
    have e : dblB (b :: l) = (if b = 39 then [39, 39] else [b]) ++ dblB l := rfl
    rw [e, if_neg (h b (by simp)), ih (fun x hx => h x (by simp [hx]))]; rfl
theorem dbl_enc : ∀ (l : List Int), (∀ x ∈ l, mayC x = true) → dblB (l.flatMap encB) = (dblC l).flatMap encB
  | [], _ => rfl
  | c :: l, h => by
    rw [List.flatMap_cons, dblB_app, dblC_cons, List.flatMap_append, dbl_enc l (fun x hx => h x (by simp [hx]))]
    congr 1
    by_cases hc : c = 39
    · subst hc; decide
    · rw [if_neg hc, dblB_no _ (no39 (h c (by simp)) hc)]; simp
theorem any_enc : ∀ (l : List Int), (∀ x ∈ l, mayC x = true) → (l.flatMap encB).any (· != 39) = l.any (· != 39)
  | [], _ => rfl
  | c :: l, h => by
    rw [List.flatMap_cons, List.any_append, List.any_cons, any_enc l (fun x hx => h x (by simp [hx]))]
    congr 1
    by_cases hc : c = 39
    · subst hc; decide
    · have hm := h c (by simp)
      have hn := no39 hm hc
      have hl := encB_len hm
      rw [show (c != 39) = true by simpa using hc]
      cases he : encB c with
      | nil => rw [he] at hl; simp at hl
      | cons b r =>
        rw [he] at hn
        have := hn b (by simp)
        simp [this]
theorem esc_enc (l : List Int) (h : ∀ x ∈ l, mayC x = true) : escRun (l.flatMap encB) = (escRunC l).flatMap encB := by
  unfold escRun escRunC
  rw [any_enc l h, dbl_enc l h]
  split
  · simp [enc_39]
  · rfl
theorem escF_enc : ∀ (cs run : List Int) (out : List UInt8), (∀ x ∈ cs, mayC x = true) → (∀ x ∈ run, mayC x = true) → escF cs out (run.flatMap encB) = out ++ (escC cs run).flatMap encB
  | [], run, out, _, hr => by rw [escF, escC, esc_enc run hr]
  | c :: r, run, out, h, hr => by
    rw [escF, escC]
    have hr' : ∀ x ∈ r, mayC x = true := fun x hx => h x (by simp [hx])
    cases hs : special c
    · simp only [Bool.false_eq_true, if_false]
      have := escF_enc r [] (out ++ escRun (run.flatMap encB) ++ encB c) hr' (by simp)
      simp only [List.flatMap_nil] at this
      rw [this, esc_enc run hr, List.flatMap_append, List.flatMap_cons]
      simp
    · simp only [if_true]
      have e : run.flatMap encB ++ encB c = (run ++ [c]).flatMap encB := by simp
      rw [e, escF_enc r (run ++ [c]) out hr' (by
        intro x hx
        rcases List.mem_append.1 hx with hx | hx
        · exact hr x hx
        · simp at hx; subst hx; exact h _ (by simp))]
theorem may_dbl {l : List Int} (h : ∀ x ∈ l, mayC x = true) : ∀ x ∈ dblC l, mayC x = true := by
  intro x hx
  obtain ⟨c, hc, hx⟩ := List.mem_flatMap.1 hx
  split at hx
  · simp at hx; subst hx; decide
  · simp at hx; subst hx; exact h _ hc
theorem may_run {l : List Int} (h : ∀ x ∈ l, mayC x = true) : ∀ x ∈ escRunC l, mayC x = true := by
  intro x hx
  unfold escRunC at hx
  split at hx
  · simp only [List.mem_cons, List.mem_append, List.not_mem_nil, or_false] at hx
    rcases hx with rfl | hx | rfl
    · decide
    · exact may_dbl h x hx
    · decide
  · exact may_dbl h x hx
theorem may_esc : ∀ (cs run : List Int), (∀ x ∈ cs, mayC x = true) → (∀ x ∈ run, mayC x = true) → ∀ x ∈ escC cs run, mayC x = true
  | [], run, _, hr => may_run hr
  | c :: r, run, h, hr => by
    rw [escC]
    have hr' : ∀ x ∈ r, mayC x = true := fun x hx => h x (by simp [hx])
    cases hs : special c
    · simp only [Bool.false_eq_true, if_false]
      intro x hx
      rcases List.mem_append.1 hx with hx | hx
      · exact may_run hr x hx
      · rcases List.mem_cons.1 hx with rfl | hx
        · exact h _ (by simp)
        · exact may_esc r [] hr' (by simp) x hx
    · simp only [if_true]
      refine may_esc r (run ++ [c]) hr' ?_
      intro x hx
      rcases List.mem_append.1 hx with hx | hx
      · exact hr x hx
      · simp at hx; subst hx; exact h _ (by simp)
/-! ### the law -/
theorem join_lits (cs : List Int) : ∀ acc : List UInt8, (cs.map lit).foldl joinStep [(0, acc)] = [(0, acc ++ cs.flatMap encB)] := by
  induction cs with
  | nil => intro acc; simp
  | cons c r ih =>
    intro acc
    rw [List.map_cons, List.foldl_cons, joinStep_more (p := lit c) (q := (0, acc)) rfl (by simp) rfl]
    show (r.map lit).foldl joinStep ([] ++ [(0, acc ++ encB c)]) = _
    rw [List.nil_append, ih]; simp
theorem joinF_lits (cs : List Int) (h : cs ≠ []) : joinF (cs.map lit) = [(0, cs.flatMap encB)] := by
  cases cs with
  | nil => exact absurd rfl h
  | cons c r =>
    unfold joinF
    rw [List.map_cons, List.foldl_cons, joinStep_nil (p := lit c) rfl]
    show (r.map lit).foldl joinStep [(0, encB c)] = _
    rw [join_lits]; simp
def quotePt (cs : List Int) : Pt := ⟨[(0, cs.flatMap encB)], [], [(3, []), (0, cs.flatMap encB)], [], ⟨0, 0, 0, 0, 0⟩⟩
theorem lits_low (cs : List Int) : low (cs.map lit) := by
  intro p hp
  obtain ⟨c, _, rfl⟩ := List.mem_map.1 hp
  exact ⟨Int.le_refl (0 : Int), (by decide : (0 : Int) < 4)⟩
theorem parse_lits (xs cs : List Int) (hx : ∀ x ∈ xs, mayC x = true) (ht : tokS false false (xs ++ [35]) = some (cs.map lit ++ [(4, [35])])) (hcs : cs ≠ []) : parseF (xs.flatMap encB ++ [35]) = .ok (quotePt cs) := by
  have hc : charsL (xs.flatMap encB ++ [35]) = xs ++ [35] := by
    rw [chars_encs xs [35] hx]; congr 1
  unfold parseF tokL tokF
  rw [hc, ht]
  show parseT (cs.map lit ++ [(4, [35])]) = _
  have := parse_one (cs.map lit) [(4, [35])] [] (lits_low cs) rfl (by simp) low_nil ⟨0, 0, 0, 0, 0⟩ (by kernel_rfl)
  rw [List.append_nil] at this
  rw [this, joinF_lits cs hcs]; rfl
theorem tok_35 : tokS false false [35] = some [(4, [35])] := by decide
theorem quote_first (cs : List Int) (hm : ∀ x ∈ cs, mayC x = true) (ho : cs.any (· != 39) = true) : parseF (39 :: (dblC cs).flatMap encB ++ [39, 35]) = .ok (quotePt cs) := by
  have hcs : cs ≠ [] := by rintro rfl; simp at ho
  have e : 39 :: (dblC cs).flatMap encB ++ [39, 35] = (39 :: (dblC cs ++ [39])).flatMap encB ++ [35] := by simp [enc_39]
  rw [e]
  refine parse_lits _ cs ?_ ?_ hcs
  · intro x hx
    simp only [List.mem_cons, List.mem_append, List.not_mem_nil, or_false] at hx
    rcases hx with rfl | hx | rfl
    · decide
    · exact may_dbl hm x hx
    · decide
  · have e2 : 39 :: (dblC cs ++ [39]) ++ [35] = 39 :: (dblC cs ++ 39 :: [35]) := by simp
    rw [e2, tokS_quote, tok_open cs [35] rfl ho, tok_35]; rfl
theorem quote_back (cs : List Int) (hm : ∀ x ∈ cs, mayC x = true) (hcs : cs ≠ []) : parseF (printF (quotePt cs).pre (quotePt cs).suf 0) = .ok (quotePt cs) := by
  have hch : charsL (cs.flatMap encB) = cs := by
    have := chars_encs cs [] hm
    rw [List.append_nil] at this
    rw [this]; simp [charsL, pieces_nil]
  have e : printF (quotePt cs).pre (quotePt cs).suf 0 = (escC cs []).flatMap encB ++ [35] := by
    have := escF_enc cs [] [] hm (by simp)
    simp only [List.flatMap_nil, List.nil_append] at this
    show litF [(0, cs.flatMap encB)] ++ sigB 0 ++ litF [] = _
    have e1 : litF [(0, cs.flatMap encB)] = escL (cs.flatMap encB) := by simp [litF]
    have e2 : litF [] = [] := rfl
    rw [e1, e2, escL, hch, this, List.append_nil]; rfl
  rw [e]
  refine parse_lits _ cs (may_esc cs [] hm (by simp)) ?_ hcs
  rw [tok_esc cs [] [35] rfl, tok_35]; rfl
end Go.Proofs.YtbnlbkmihemicaaDoor.Pat
