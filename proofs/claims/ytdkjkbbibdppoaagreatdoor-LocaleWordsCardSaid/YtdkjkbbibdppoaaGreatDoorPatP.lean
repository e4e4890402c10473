/- Patterns of numbers, the plain law: what a number's signs say, told by pieces and told sign by sign, is the same. No program. -/
namespace Go.Proofs.YtdkjkbbibdppoaaGreatDoor.Pat
set_option linter.unusedVariables false
set_option linter.unusedSimpArgs false

/-- the parts between the c's -/
def splitL (c : UInt8) : List UInt8 → List (List UInt8)
  | [] => [[]]
  | b :: l => if b = c then [] :: splitL c l else match splitL c l with | g :: gs => (b :: g) :: gs | [] => [[b]]
theorem splitL_ne (c : UInt8) (l : List UInt8) : splitL c l ≠ [] := by
  cases l with
  | nil => simp [splitL]
  | cons b l =>
    unfold splitL
    split
    · simp
    · split <;> simp
theorem splitL_cons_ne {c b : UInt8} {l : List UInt8} (h : b ≠ c) : ∃ g gs, splitL c l = g :: gs ∧ splitL c (b :: l) = (b :: g) :: gs := by
  cases hs : splitL c l with
  | nil => exact absurd hs (splitL_ne c l)
  | cons g gs => exact ⟨g, gs, rfl, by rw [splitL, if_neg h, hs]⟩
theorem splitL_cons_eq {c : UInt8} {l : List UInt8} : splitL c (c :: l) = [] :: splitL c l := by rw [splitL, if_pos rfl]
theorem splitL_snoc (c x : UInt8) (l : List UInt8) : splitL c (l ++ [x]) = if x = c then splitL c l ++ [[]] else (splitL c l).dropLast ++ [(splitL c l).getLastD [] ++ [x]] := by
  induction l with
  | nil =>
    by_cases h : x = c
    · subst h; simp [splitL]
    · simp [splitL, h]
  | cons b l ih =>
    by_cases hb : b = c
    · subst hb
      rw [List.cons_append, splitL_cons_eq, splitL_cons_eq, ih]
      have hne := splitL_ne b l
      split
      · simp
      · cases hs : splitL b l with
        | nil => exact absurd hs hne
        | cons g gs => simp [List.getLastD_cons]
    · obtain ⟨g, gs, h1, h2⟩ := splitL_cons_ne (l := l) hb
      obtain ⟨g', gs', h1', h2'⟩ := splitL_cons_ne (l := l ++ [x]) hb
      rw [List.cons_append, h2', h2]
      rw [ih, h1] at h1'
      split
      · rename_i hx
        rw [if_pos hx] at h1'
        simp only [List.cons_append, List.cons.injEq] at h1'
        rw [← h1'.1, ← h1'.2]; rfl
      · rename_i hx
        rw [if_neg hx] at h1'
        cases gs with
        | nil =>
          simp at h1'
          rw [← h1'.1, h1'.2]; simp
        | cons g2 gs2 =>
          simp [List.getLastD_cons] at h1' ⊢
          rw [← h1'.1, ← h1'.2]
          exact ⟨rfl, by cases gs2 <;> simp⟩

/-- first a's, then b's -/
def runsL (a b : UInt8) (l : List UInt8) : Bool := decide ((l.dropWhile (· = a)).dropWhile (· = b) = [])
theorem mem_tw {p : UInt8 → Bool} {l : List UInt8} {x : UInt8} (h : x ∈ l.takeWhile p) : p x = true := by
  induction l with
  | nil => simp at h
  | cons b l ih =>
    rw [List.takeWhile_cons] at h
    split at h
    · rcases List.mem_cons.1 h with rfl | h
      · assumption
      · exact ih h
    · simp at h
theorem runsL_iff {a b : UInt8} {l : List UInt8} : runsL a b l = true ↔ ∃ i j, l = List.replicate i a ++ List.replicate j b := by
  unfold runsL
  rw [decide_eq_true_iff]
  constructor
  · intro h
    refine ⟨(l.takeWhile (· = a)).length, ((l.dropWhile (· = a)).takeWhile (· = b)).length, ?_⟩
    have e1 : l.takeWhile (· = a) = List.replicate (l.takeWhile (· = a)).length a := List.eq_replicate_of_mem fun x hx => by
      have := mem_tw hx; simpa using this
    have e2 : (l.dropWhile (· = a)).takeWhile (· = b) = List.replicate ((l.dropWhile (· = a)).takeWhile (· = b)).length b := List.eq_replicate_of_mem fun x hx => by
      have := mem_tw hx; simpa using this
    rw [← e1, ← e2]
    have e3 := List.takeWhile_append_dropWhile (p := fun x => decide (x = b)) (l := l.dropWhile (· = a))
    rw [h, List.append_nil] at e3
    rw [e3, List.takeWhile_append_dropWhile]
  · rintro ⟨i, j, rfl⟩
    by_cases hab : a = b
    · subst hab
      rw [List.dropWhile_append_of_pos (by simp)]
      simp
    · rw [List.dropWhile_append_of_pos (by simp)]
      cases j with
      | zero => simp
      | succ j =>
        have : (List.replicate (j + 1) b).dropWhile (· = a) = List.replicate (j + 1) b := by
          rw [List.replicate_succ, List.dropWhile_cons, if_neg (by simp; exact fun e => hab e.symm)]
        rw [this]; simp
theorem runsL_nil (a b : UInt8) : runsL a b [] = true := by simp [runsL]
theorem runsL_snoc {a b : UInt8} (hab : a ≠ b) (l : List UInt8) (x : UInt8) (hx : x = a ∨ x = b) : runsL a b (l ++ [x]) = (runsL a b l && (decide (x = b) || decide (l.count b = 0))) := by
  rw [Bool.eq_iff_iff, Bool.and_eq_true, runsL_iff, runsL_iff]
  constructor
  · rintro ⟨i, j, h⟩
    cases j with
    | zero =>
      rw [List.replicate_zero, List.append_nil] at h
      cases i with
      | zero => simp at h
      | succ i =>
        rw [List.replicate_succ'] at h
        obtain ⟨h1, h2⟩ := List.append_inj' h rfl
        refine ⟨⟨i, 0, by simp [h1]⟩, ?_⟩
        rw [h1, List.count_replicate, if_neg (by simpa using hab)]; simp
    | succ j =>
      rw [List.replicate_succ', ← List.append_assoc] at h
      obtain ⟨h1, h2⟩ := List.append_inj' h rfl
      refine ⟨⟨i, j, h1⟩, ?_⟩
      simp at h2; simp [h2]
  · rintro ⟨⟨i, j, rfl⟩, h⟩
    by_cases hxb : x = b
    · subst hxb; exact ⟨i, j + 1, by rw [List.replicate_succ', List.append_assoc]⟩
    · have hxa : x = a := by rcases hx with h | h; exact h; exact absurd h hxb
      subst hxa
      simp [hxb] at h
      obtain ⟨-, h⟩ := h
      subst h
      exact ⟨i + 1, 0, by rw [List.replicate_succ']; simp⟩
end Go.Proofs.YtdkjkbbibdppoaaGreatDoor.Pat
