/- Patterns of numbers, plain laws: how a text's pieces lie side by side; halves of a text without a second half; quotes. No program. -/
import Derived.Test.YtdkjkbbibdppoaaGreatDoorPat9
import Derived.Test.YtdkjkbbibdppoaaGreatDoorEncC
namespace Go.Proofs.YtdkjkbbibdppoaaGreatDoor.Pat
open Go.RowKit Utf All Small EncC
set_option linter.unusedVariables false
set_option linter.unusedSimpArgs false

/-- Does a text not begin with a quote? -/
def noQ : List Int → Bool
  | [] => true
  | c :: _ => c != 39
theorem noQ_ne {ys : List Int} (h : noQ ys = true) : ∀ c r', ys = c :: r' → c ≠ 39 := by
  intro c r' e; subst e; simpa [noQ] using h
theorem map_app (l m : List Pc) (o : Option (List Pc)) : (o.map (m ++ ·)).map (l ++ ·) = o.map ((l ++ m) ++ ·) := by cases o <;> simp
theorem cons_app (x : Pc) (o : Option (List Pc)) (l : List Pc) : (o.map (l ++ ·)).map (x :: ·) = o.map ((x :: l) ++ ·) := by cases o <;> simp
theorem tokS_app : ∀ (xs : List Int) (q p : Bool) (l : List Pc) (ys : List Int), tokS q p xs = some l → noQ ys = true → tokS q p (xs ++ ys) = (tokS false false ys).map (l ++ ·)
  | [], q, p, l, ys, h, hy => by
    cases p
    · cases q <;> simp [tokS] at h
      subst h; simp
    · cases q <;> simp [tokS] at h
      subst h
      rw [List.nil_append, tokS_toggle true ys (noQ_ne hy)]; simp
  | c :: r, q, p, l, ys, h, hy => by
    rw [List.cons_append]
    cases p
    · rw [tokS] at h ⊢
      by_cases hc : c = 39
      · rw [if_pos hc] at h ⊢; exact tokS_app r q true l ys h hy
      · rw [if_neg hc] at h ⊢
        cases q
        · simp only [Bool.false_eq_true, if_false] at h ⊢
          split at h
          · cases h
          · rename_i hk
            rw [if_neg hk]
            obtain ⟨m, hm, rfl⟩ := Option.map_eq_some_iff.1 h
            rw [tokS_app r false false m ys hm hy, cons_app]
        · simp only [if_true] at h ⊢
          obtain ⟨m, hm, rfl⟩ := Option.map_eq_some_iff.1 h
          rw [tokS_app r true false m ys hm hy, cons_app]
    · rw [tokS] at h ⊢
      by_cases hc : c = 39
      · rw [if_pos hc] at h ⊢
        obtain ⟨m, hm, rfl⟩ := Option.map_eq_some_iff.1 h
        rw [tokS_app r q false m ys hm hy, cons_app]
      · rw [if_neg hc] at h ⊢
        cases q
        · simp only [Bool.false_eq_true, if_false] at h ⊢
          obtain ⟨m, hm, rfl⟩ := Option.map_eq_some_iff.1 h
          rw [tokS_app r true false m ys hm hy, cons_app]
        · simp only [if_true] at h ⊢
          split at h
          · cases h
          · rename_i hk
            rw [if_neg hk]
            obtain ⟨m, hm, rfl⟩ := Option.map_eq_some_iff.1 h
            rw [tokS_app r false false m ys hm hy, cons_app]

/-- By the parity of the quotes: outside a quotation stand literals and places alone, and the last quotation ends. -/
def gd : Bool → List Int → Bool
  | q, [] => !q
  | q, c :: r => if c = 39 then gd (!q) r else (q || (decide (0 ≤ kindL c) && decide (kindL c < 4))) && gd q r
def low (l : List Pc) : Prop := ∀ p ∈ l, 0 ≤ p.1 ∧ p.1 < 4
theorem low_nil : low [] := fun _ h => by cases h
theorem low_cons {x : Pc} {l : List Pc} (h : 0 ≤ x.1 ∧ x.1 < 4) (hl : low l) : low (x :: l) := fun p hp => by
  rcases List.mem_cons.1 hp with rfl | hp
  · exact h
  · exact hl p hp
theorem low_app {l m : List Pc} (h : low l) (k : low m) : low (l ++ m) := fun p hp => by
  rcases List.mem_append.1 hp with hp | hp
  · exact h p hp
  · exact k p hp
theorem gd_tok : ∀ (xs : List Int) (q : Bool), (gd q xs = true → ∃ l, tokS q false xs = some l ∧ low l) ∧ (gd (!q) xs = true → ∃ l, tokS q true xs = some l ∧ low l)
  | [], q => by
    constructor
    · intro h; cases q <;> simp [gd] at h
      exact ⟨[], rfl, low_nil⟩
    · intro h; cases q <;> simp [gd] at h
      exact ⟨[], rfl, low_nil⟩
  | c :: r, q => by
    constructor
    · intro h
      rw [gd] at h
      rw [tokS]
      by_cases hc : c = 39
      · rw [if_pos hc] at h ⊢
        exact (gd_tok r q).2 h
      · rw [if_neg hc] at h ⊢
        cases q
        · simp only [Bool.false_or, Bool.and_eq_true, decide_eq_true_eq] at h
          simp only [Bool.false_eq_true, if_false]
          rw [if_neg (by omega)]
          obtain ⟨l, hl, h2⟩ := (gd_tok r false).1 h.2
          exact ⟨_, by rw [hl]; rfl, low_cons h.1 h2⟩
        · simp only [Bool.true_or, Bool.true_and] at h
          simp only [if_true]
          obtain ⟨l, hl, h2⟩ := (gd_tok r true).1 h
          exact ⟨_, by rw [hl]; rfl, low_cons ⟨Int.le_refl (0 : Int), (by omega : (0 : Int) < 4)⟩ h2⟩
    · intro h
      rw [gd] at h
      rw [tokS]
      by_cases hc : c = 39
      · rw [if_pos hc] at h ⊢
        rw [Bool.not_not] at h
        obtain ⟨l, hl, h2⟩ := (gd_tok r q).1 h
        exact ⟨_, by rw [hl]; rfl, low_cons ⟨Int.le_refl (0 : Int), (by omega : (0 : Int) < 4)⟩ h2⟩
      · rw [if_neg hc] at h ⊢
        cases q
        · simp only [Bool.not_false, Bool.true_or, Bool.true_and] at h
          simp only [Bool.false_eq_true, if_false]
          obtain ⟨l, hl, h2⟩ := (gd_tok r true).1 h
          exact ⟨_, by rw [hl]; rfl, low_cons ⟨Int.le_refl (0 : Int), (by omega : (0 : Int) < 4)⟩ h2⟩
        · simp only [Bool.not_true, Bool.false_or, Bool.and_eq_true, decide_eq_true_eq] at h
          simp only [if_true]
          rw [if_neg (by omega)]
          obtain ⟨l, hl, h2⟩ := (gd_tok r false).1 h.2
          exact ⟨_, by rw [hl]; rfl, low_cons h.1 h2⟩
theorem gd_app : ∀ (xs ys : List Int) (q : Bool), gd q xs = true → gd false ys = true → gd q (xs ++ ys) = true
  | [], ys, q, h, hy => by cases q <;> simp [gd] at h; exact hy
  | c :: r, ys, q, h, hy => by
    rw [List.cons_append]
    rw [gd] at h ⊢
    split at h
    · rename_i hc
      rw [if_pos hc]; exact gd_app r ys _ h hy
    · rename_i hc
      rw [if_neg hc]
      rw [Bool.and_eq_true] at h ⊢
      exact ⟨h.1, gd_app r ys _ h.2 hy⟩
theorem gd_flat {α : Type} (f : α → List Int) : ∀ xs : List α, (∀ x ∈ xs, gd false (f x) = true) → gd false (xs.flatMap f) = true
  | [], _ => rfl
  | x :: xs, h => by
    rw [List.flatMap_cons]
    exact gd_app _ _ _ (h x (by simp)) (gd_flat f xs fun y hy => h y (by simp [hy]))

/-- signs of a number alone -/
def isNum (l : List Int) : Bool := l.all fun c => c = 35 ∨ c = 48 ∨ c = 44 ∨ c = 46
theorem kind_num {c : Int} (h : c = 35 ∨ c = 48 ∨ c = 44 ∨ c = 46) : kindL c = 4 := by
  rcases h with rfl | rfl | rfl | rfl <;> decide
theorem tok_num : ∀ (xs : List Int), isNum xs = true → tokS false false xs = some (xs.map fun c => (4, encB c))
  | [], _ => rfl
  | c :: r, h => by
    unfold isNum at h
    rw [List.all_cons, Bool.and_eq_true, decide_eq_true_eq] at h
    have hk := kind_num h.1
    have h39 : c ≠ 39 := by omega
    rw [tokS, if_neg h39, hk]
    simp only [Bool.false_eq_true, if_false]
    rw [if_neg (by decide), tok_num r h.2]; rfl

/-- ahead: literals and places; a number; behind: literals and places -/
theorem any_low {l : List Pc} (h : low l) (n : Int) (hn : 4 ≤ n) : l.any (isK n) = false := by
  rw [List.any_eq_false]; intro p hp
  have := h p hp
  simp [isK]; omega
theorem tw_app {α : Type} (f : α → Bool) (l m : List α) (h : l.all f = true) (hm : ∀ x r, m = x :: r → f x = false) : (l ++ m).takeWhile f = l := by
  induction l with
  | nil =>
    cases m with
    | nil => rfl
    | cons x r => simp [hm x r rfl]
  | cons x l ih =>
    rw [List.all_cons, Bool.and_eq_true] at h
    rw [List.cons_append, List.takeWhile_cons, h.1, ih h.2]; rfl
theorem half_of (P N S : List Pc) (hP : low P) (hN : N.all (isK 4) = true) (hN0 : N ≠ []) (hS : low S) :
    halfF (P ++ N ++ S) = (numP (textOf N)).map fun r => (joinF P, joinF S, r.1, r.2) := by
  have h0 : 0 < N.length := List.length_pos_iff.2 hN0
  have hi : idxF (isK 4) (P ++ N ++ S) = P.length := by
    refine idxF_at _ _ _ (by simp; omega) ?_ ?_
    · rw [List.append_assoc, List.take_left']
      · exact any_low hP 4 (by decide)
      · rfl
    · have e : (P ++ N ++ S)[P.length]'(by simp; omega) = N[0] := by
        simp [List.getElem_append, h0]
      rw [e]
      exact List.all_eq_true.1 hN _ (List.getElem_mem h0)
  have hf : fromN (P ++ N ++ S) = P.length := by unfold fromN; rw [hi]; rfl
  have hd : (P ++ N ++ S).drop P.length = N ++ S := by rw [List.append_assoc, List.drop_left']; rfl
  have hr : runOf (P ++ N ++ S) = N := by
    unfold runOf; rw [hf, hd]
    refine tw_app _ _ _ hN ?_
    intro x r e
    have := hS x (by rw [e]; simp)
    simp [isK]; omega
  have ht : toN (P ++ N ++ S) = (P ++ N).length := by unfold toN; rw [hf, hr]; simp
  unfold halfF
  rw [hi, if_neg (by omega), ht, List.drop_left' rfl, if_neg (by rw [any_low hS 4 (by decide)]; decide), hr, hf]
  congr 1
  rw [List.append_assoc, List.take_left' rfl]
theorem joinStep_cons (x : Pc) (hx : x.1 ≠ 0) (acc : List Pc) (p : Pc) : joinStep (x :: acc) p = x :: joinStep acc p := by
  by_cases h : p.1 = 0
  · cases acc with
    | nil => rw [joinStep_nil h, joinStep_new h (q := x) (by simp) hx]; rfl
    | cons y acc =>
      have hl : (x :: y :: acc).getLast? = (y :: acc).getLast? := by simp [List.getLast?_cons_cons]
      cases hq : (y :: acc).getLast? with
      | none => simp at hq
      | some q =>
        by_cases h2 : q.1 = 0
        · rw [joinStep_more h hq h2, joinStep_more h (hl.trans hq) h2]; rfl
        · rw [joinStep_new h hq h2, joinStep_new h (hl.trans hq) h2]; rfl
  · rw [joinStep_place h, joinStep_place h]; rfl
theorem join_cons (x : Pc) (hx : x.1 ≠ 0) : ∀ (l acc : List Pc), l.foldl joinStep (x :: acc) = x :: l.foldl joinStep acc
  | [], acc => rfl
  | p :: l, acc => by rw [List.foldl_cons, List.foldl_cons, joinStep_cons x hx, join_cons x hx l]
theorem joinF_place (x : Pc) (hx : x.1 ≠ 0) (l : List Pc) : joinF (x :: l) = (x.1, []) :: joinF l := by
  unfold joinF
  rw [List.foldl_cons, joinStep_place hx, List.nil_append, join_cons (x.1, []) hx]

/-- a text of one half -/
theorem parse_one (P N S : List Pc) (hP : low P) (hN : N.all (isK 4) = true) (hN0 : N ≠ []) (hS : low S) (n : Nums) (hn : numP (textOf N) = some (n, true)) :
    parseT (P ++ N ++ S) = .ok ⟨joinF P, joinF S, (3, []) :: joinF P, joinF S, n⟩ := by
  have h5 : (P ++ N ++ S).any (isK 5) = false := by
    rw [List.any_append, List.any_append, any_low hP 5 (by decide), any_low hS 5 (by decide)]
    have : N.any (isK 5) = false := by
      rw [List.any_eq_false]; intro p hp
      have := List.all_eq_true.1 hN p hp
      simp [isK] at this ⊢; omega
    rw [this]; rfl
  have hh := half_of P N S hP hN hN0 hS
  rw [hn] at hh
  unfold parseT
  rw [idxF_none _ _ h5, if_neg (by decide), halves_ok hh hh]; rfl
/-- a text of two -/
theorem parse_two (P N S P' N' S' : List Pc) (c : Pc) (hc : c.1 = 5) (hP : low P) (hN : N.all (isK 4) = true) (hN0 : N ≠ []) (hS : low S) (n : Nums) (hn : numP (textOf N) = some (n, true))
    (hP' : low P') (hN' : N'.all (isK 4) = true) (hN0' : N' ≠ []) (hS' : low S') (n' : Nums) (hn' : numP (textOf N') = some (n', true)) :
    parseT ((P ++ N ++ S) ++ c :: (P' ++ N' ++ S')) = .ok ⟨joinF P, joinF S, joinF P', joinF S', n⟩ := by
  have g : ∀ (P N S : List Pc), low P → N.all (isK 4) = true → low S → (P ++ N ++ S).any (isK 5) = false := by
    intro P N S hP hN hS
    rw [List.any_append, List.any_append, any_low hP 5 (by decide), any_low hS 5 (by decide)]
    have : N.any (isK 5) = false := by
      rw [List.any_eq_false]; intro p hp
      have := List.all_eq_true.1 hN p hp
      simp [isK] at this ⊢; omega
    rw [this]; rfl
  have h1 := g P N S hP hN hS
  have h2 := g P' N' S' hP' hN' hS'
  have hh := half_of P N S hP hN hN0 hS
  have hh' := half_of P' N' S' hP' hN' hN0' hS'
  rw [hn] at hh
  rw [hn'] at hh'
  generalize P ++ N ++ S = L at *
  generalize P' ++ N' ++ S' = M at *
  have hi : idxF (isK 5) (L ++ c :: M) = L.length := by
    refine idxF_at _ _ _ (by simp) ?_ ?_
    · rw [List.take_left' rfl]; exact h1
    · simp [isK, hc]
  have hc1 : cntK 5 (L ++ c :: M) = 1 := by
    unfold cntK
    rw [List.countP_append, List.countP_cons, List.countP_eq_zero.2 (by simpa [List.any_eq_false] using h1), List.countP_eq_zero.2 (by simpa [List.any_eq_false] using h2)]
    simp [isK, hc]
  unfold parseT
  rw [hi, if_pos (by omega), if_pos hc1, Int.toNat_natCast, List.take_left' rfl]
  have e : (L ++ c :: M).drop (L.length + 1) = M := by
    rw [← List.drop_drop, List.drop_left' rfl]; rfl
  rw [e, halves_ok hh hh']; rfl
end Go.Proofs.YtdkjkbbibdppoaaGreatDoor.Pat
