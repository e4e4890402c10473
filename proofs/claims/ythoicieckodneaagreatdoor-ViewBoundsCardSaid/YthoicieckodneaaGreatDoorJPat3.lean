/- Joined by wip/join.py: PatT PatE PatF PatG PatH PatL PatS. -/
import Derived.Test.YthoicieckodneaaGreatDoorJPat2
import Derived.Test.YthoicieckodneaaGreatDoorJPat1
import Derived.Test.YthoicieckodneaaGreatDoorJBuild
import Derived.Laws.StructEq
import Derived.Deep.MidRow
import Derived.Deep.RegionHeld3
import Derived.Deep.RegionWith
import Derived.Deep.DeepCutAuto
/- Patterns of numbers, plain laws: how a text's pieces lie side by side; halves of a text without a second half; quotes. No program. -/
namespace Go.Proofs.YthoicieckodneaaGreatDoor.Pat
open Go.RowKit Utf All Small EncC
set_option linter.unusedVariables false
set_option linter.unusedSimpArgs false

/-- Does a text not begin with a quote? -/
def noQ : List Int → Bool
  | [] => true
  | c :: _ => c != 39
theorem noQ_ne {ys : List Int} (h : noQ ys = true) : ∀ c r', ys = c :: r' → c ≠ 39 := by
  intro c r' e; subst e; simpa [noQ] using h
theorem map_app (l m : List Pc) (o : Option (List Pc)) : (o.map (m ++ ·)).map (l ++ ·) = o.map ((l ++ m) ++ ·) := by cases o <;> simp
theorem cons_app (x : Pc) (o : Option (List Pc)) (l : List Pc) : (o.map (l ++ ·)).map (x :: ·) = o.map ((x :: l) ++ ·) := by cases o <;> simp
theorem tokS_app : ∀ (xs : List Int) (q p : Bool) (l : List Pc) (ys : List Int), tokS q p xs = some l → noQ ys = true → tokS q p (xs ++ ys) = (tokS false false ys).map (l ++ ·)
  | [], q, p, l, ys, h, hy => by
    cases p
    · cases q <;> simp [tokS] at h
      subst h; simp
    · cases q <;> simp [tokS] at h
      subst h
      rw [List.nil_append, tokS_toggle true ys (noQ_ne hy)]; simp
  | c :: r, q, p, l, ys, h, hy => by
    rw [List.cons_append]
    cases p
    · rw [tokS] at h ⊢
      by_cases hc : c = 39
      · rw [if_pos hc] at h ⊢; exact tokS_app r q true l ys h hy
      · rw [if_neg hc] at h ⊢
        cases q
        · simp only [Bool.false_eq_true, if_false] at h ⊢
          split at h
          · cases h
          · rename_i hk
            rw [if_neg hk]
            obtain ⟨m, hm, rfl⟩ := Option.map_eq_some_iff.1 h
            rw [tokS_app r false false m ys hm hy, cons_app]
        · simp only [if_true] at h ⊢
          obtain ⟨m, hm, rfl⟩ := Option.map_eq_some_iff.1 h
          rw [tokS_app r true false m ys hm hy, cons_app]
    · rw [tokS] at h ⊢
      by_cases hc : c = 39
      · rw [if_pos hc] at h ⊢
        obtain ⟨m, hm, rfl⟩ := Option.map_eq_some_iff.1 h
        rw [tokS_app r q false m ys hm hy, cons_app]
      · rw [if_neg hc] at h ⊢
        cases q
        · simp only [Bool.false_eq_true, if_false] at h ⊢
          obtain ⟨m, hm, rfl⟩ := Option.map_eq_some_iff.1 h
          rw [tokS_app r true false m ys hm hy, cons_app]
        · simp only [if_true] at h ⊢
          split at h
          · cases h
          · rename_i hk
            rw [if_neg hk]
            obtain ⟨m, hm, rfl⟩ := Option.map_eq_some_iff.1 h
            rw [tokS_app r false false m ys hm hy, cons_app]

/-- By the parity of the quotes: outside a quotation stand literals and places alone, and the last quotation ends. -/
def gd : Bool → List Int → Bool
  | q, [] => !q
  | q, c :: r => if c = 39 then gd (!q) r else (q || (decide (0 ≤ kindL c) && decide (kindL c < 4))) && gd q r
def low (l : List Pc) : Prop := ∀ p ∈ l, 0 ≤ p.1 ∧ p.1 < 4
theorem low_nil : low [] := fun _ h => by cases h
theorem low_cons {x : Pc} {l : List Pc} (h : 0 ≤ x.1 ∧ x.1 < 4) (hl : low l) : low (x :: l) := fun p hp => by
  rcases List.mem_cons.1 hp with rfl | hp
  · exact h
  · exact hl p hp
theorem low_app {l m : List Pc} (h : low l) (k : low m) : low (l ++ m) := fun p hp => by
  rcases List.mem_append.1 hp with hp | hp
  · exact h p hp
  · exact k p hp
theorem gd_tok : ∀ (xs : List Int) (q : Bool), (gd q xs = true → ∃ l, tokS q false xs = some l ∧ low l) ∧ (gd (!q) xs = true → ∃ l, tokS q true xs = some l ∧ low l)
  | [], q => by
    constructor
    · intro h; cases q <;> simp [gd] at h
      exact ⟨[], rfl, low_nil⟩
    · intro h; cases q <;> simp [gd] at h
      exact ⟨[], rfl, low_nil⟩
  | c :: r, q => by
    constructor
    · intro h
      rw [gd] at h
      rw [tokS]
      by_cases hc : c = 39
      · rw [if_pos hc] at h ⊢
        exact (gd_tok r q).2 h
      · rw [if_neg hc] at h ⊢
        cases q
        · simp only [Bool.false_or, Bool.and_eq_true, decide_eq_true_eq] at h
          simp only [Bool.false_eq_true, if_false]
          rw [if_neg (by omega)]
          obtain ⟨l, hl, h2⟩ := (gd_tok r false).1 h.2
          exact ⟨_, by rw [hl]; rfl, low_cons h.1 h2⟩
        · simp only [Bool.true_or, Bool.true_and] at h
          simp only [if_true]
          obtain ⟨l, hl, h2⟩ := (gd_tok r true).1 h
          exact ⟨_, by rw [hl]; rfl, low_cons ⟨Int.le_refl (0 : Int), (by omega : (0 : Int) < 4)⟩ h2⟩
    · intro h
      rw [gd] at h
      rw [tokS]
      by_cases hc : c = 39
      · rw [if_pos hc] at h ⊢
        rw [Bool.not_not] at h
        obtain ⟨l, hl, h2⟩ := (gd_tok r q).1 h
        exact ⟨_, by rw [hl]; rfl, low_cons ⟨Int.le_refl (0 : Int), (by omega : (0 : Int) < 4)⟩ h2⟩
      · rw [if_neg hc] at h ⊢
        cases q
        · simp only [Bool.not_false, Bool.true_or, Bool.true_and] at h
          simp only [Bool.false_eq_true, if_false]
          obtain ⟨l, hl, h2⟩ := (gd_tok r true).1 h
          exact ⟨_, by rw [hl]; rfl, low_cons ⟨Int.le_refl (0 : Int), (by omega : (0 : Int) < 4)⟩ h2⟩
        · simp only [Bool.not_true, Bool.false_or, Bool.and_eq_true, decide_eq_true_eq] at h
          simp only [if_true]
          rw [if_neg (by omega)]
          obtain ⟨l, hl, h2⟩ := (gd_tok r false).1 h.2
          exact ⟨_, by rw [hl]; rfl, low_cons h.1 h2⟩
theorem gd_app : ∀ (xs ys : List Int) (q : Bool), gd q xs = true → gd false ys = true → gd q (xs ++ ys) = true
  | [], ys, q, h, hy => by cases q <;> simp [gd] at h; exact hy
  | c :: r, ys, q, h, hy => by
    rw [List.cons_append]
    rw [gd] at h ⊢
    split at h
    · rename_i hc
      rw [if_pos hc]; exact gd_app r ys _ h hy
    · rename_i hc
      rw [if_neg hc]
      rw [Bool.and_eq_true] at h ⊢
      exact ⟨h.1, gd_app r ys _ h.2 hy⟩
theorem gd_flat {α : Type} (f : α → List Int) : ∀ xs : List α, (∀ x ∈ xs, gd false (f x) = true) → gd false (xs.flatMap f) = true
  | [], _ => rfl
  | x :: xs, h => by
    rw [List.flatMap_cons]
    exact gd_app _ _ _ (h x (by simp)) (gd_flat f xs fun y hy => h y (by simp [hy]))

/-- signs of a number alone -/
def isNum (l : List Int) : Bool := l.all fun c => c = 35 ∨ c = 48 ∨ c = 44 ∨ c = 46
theorem kind_num {c : Int} (h : c = 35 ∨ c = 48 ∨ c = 44 ∨ c = 46) : kindL c = 4 := by
  rcases h with rfl | rfl | rfl | rfl <;> decide
theorem tok_num : ∀ (xs : List Int), isNum xs = true → tokS false false xs = some (xs.map fun c => (4, encB c))
  | [], _ => rfl
  | c :: r, h => by
    unfold isNum at h
    rw [List.all_cons, Bool.and_eq_true, decide_eq_true_eq] at h
    have hk := kind_num h.1
    have h39 : c ≠ 39 := by omega
    rw [tokS, if_neg h39, hk]
    simp only [Bool.false_eq_true, if_false]
    rw [if_neg (by decide), tok_num r h.2]; rfl

/-- ahead: literals and places; a number; behind: literals and places -/
theorem any_low {l : List Pc} (h : low l) (n : Int) (hn : 4 ≤ n) : l.any (isK n) = false := by
  rw [List.any_eq_false]; intro p hp
  have := h p hp
  simp [isK]; omega
theorem tw_app {α : Type} (f : α → Bool) (l m : List α) (h : l.all f = true) (hm : ∀ x r, m = x :: r → f x = false) : (l ++ m).takeWhile f = l := by
  induction l with
  | nil =>
    cases m with
    | nil => rfl
    | cons x r => simp [hm x r rfl]
  | cons x l ih =>
    rw [List.all_cons, Bool.and_eq_true] at h
    rw [List.cons_append, List.takeWhile_cons, h.1, ih h.2]; rfl
theorem half_of (P N S : List Pc) (hP : low P) (hN : N.all (isK 4) = true) (hN0 : N ≠ []) (hS : low S) :
    halfF (P ++ N ++ S) = (numP (textOf N)).map fun r => (joinF P, joinF S, r.1, r.2) := by
  have h0 : 0 < N.length := List.length_pos_iff.2 hN0
  have hi : idxF (isK 4) (P ++ N ++ S) = P.length := by
    refine idxF_at _ _ _ (by simp; omega) ?_ ?_
    · rw [List.append_assoc, List.take_left']
      · exact any_low hP 4 (by decide)
      · rfl
    · have e : (P ++ N ++ S)[P.length]'(by simp; omega) = N[0] := by
        simp [List.getElem_append, h0]
      rw [e]
      exact List.all_eq_true.1 hN _ (List.getElem_mem h0)
  have hf : fromN (P ++ N ++ S) = P.length := by unfold fromN; rw [hi]; rfl
  have hd : (P ++ N ++ S).drop P.length = N ++ S := by rw [List.append_assoc, List.drop_left']; rfl
  have hr : runOf (P ++ N ++ S) = N := by
    unfold runOf; rw [hf, hd]
    refine tw_app _ _ _ hN ?_
    intro x r e
    have := hS x (by rw [e]; simp)
    simp [isK]; omega
  have ht : toN (P ++ N ++ S) = (P ++ N).length := by unfold toN; rw [hf, hr]; simp
  unfold halfF
  rw [hi, if_neg (by omega), ht, List.drop_left' rfl, if_neg (by rw [any_low hS 4 (by decide)]; decide), hr, hf]
  congr 1
  rw [List.append_assoc, List.take_left' rfl]
theorem joinStep_cons (x : Pc) (hx : x.1 ≠ 0) (acc : List Pc) (p : Pc) : joinStep (x :: acc) p = x :: joinStep acc p := by
  by_cases h : p.1 = 0
  · cases acc with
    | nil => rw [joinStep_nil h, joinStep_new h (q := x) (by simp) hx]; rfl
    | cons y acc =>
      have hl : (x :: y :: acc).getLast? = (y :: acc).getLast? := by simp [List.getLast?_cons_cons]
      cases hq : (y :: acc).getLast? with
      | none => simp at hq
      | some q =>
        by_cases h2 : q.1 = 0
        · rw [joinStep_more h hq h2, joinStep_more h (hl.trans hq) h2]; rfl
        · rw [joinStep_new h hq h2, joinStep_new h (hl.trans hq) h2]; rfl
  · rw [joinStep_place h, joinStep_place h]; rfl
theorem join_cons (x : Pc) (hx : x.1 ≠ 0) : ∀ (l acc : List Pc), l.foldl joinStep (x :: acc) = x :: l.foldl joinStep acc
  | [], acc => rfl
  | p :: l, acc => by rw [List.foldl_cons, List.foldl_cons, joinStep_cons x hx, join_cons x hx l]
theorem joinF_place (x : Pc) (hx : x.1 ≠ 0) (l : List Pc) : joinF (x :: l) = (x.1, []) :: joinF l := by
  unfold joinF
  rw [List.foldl_cons, joinStep_place hx, List.nil_append, join_cons (x.1, []) hx]

/-- a text of one half -/
theorem parse_one (P N S : List Pc) (hP : low P) (hN : N.all (isK 4) = true) (hN0 : N ≠ []) (hS : low S) (n : Nums) (hn : numP (textOf N) = some (n, true)) :
    parseT (P ++ N ++ S) = .ok ⟨joinF P, joinF S, (3, []) :: joinF P, joinF S, n⟩ := by
  have h5 : (P ++ N ++ S).any (isK 5) = false := by
    rw [List.any_append, List.any_append, any_low hP 5 (by decide), any_low hS 5 (by decide)]
    have : N.any (isK 5) = false := by
      rw [List.any_eq_false]; intro p hp
      have := List.all_eq_true.1 hN p hp
      simp [isK] at this ⊢; omega
    rw [this]; rfl
  have hh := half_of P N S hP hN hN0 hS
  rw [hn] at hh
  unfold parseT
  rw [idxF_none _ _ h5, if_neg (by decide), halves_ok hh hh]; rfl
/-- a text of two -/
theorem parse_two (P N S P' N' S' : List Pc) (c : Pc) (hc : c.1 = 5) (hP : low P) (hN : N.all (isK 4) = true) (hN0 : N ≠ []) (hS : low S) (n : Nums) (hn : numP (textOf N) = some (n, true))
    (hP' : low P') (hN' : N'.all (isK 4) = true) (hN0' : N' ≠ []) (hS' : low S') (n' : Nums) (hn' : numP (textOf N') = some (n', true)) :
    parseT ((P ++ N ++ S) ++ c :: (P' ++ N' ++ S')) = .ok ⟨joinF P, joinF S, joinF P', joinF S', n⟩ := by
  have g : ∀ (P N S : List Pc), low P → N.all (isK 4) = true → low S → (P ++ N ++ S).any (isK 5) = false := by
    intro P N S hP hN hS
    rw [List.any_append, List.any_append, any_low hP 5 (by decide), any_low hS 5 (by decide)]
    have : N.any (isK 5) = false := by
      rw [List.any_eq_false]; intro p hp
      have := List.all_eq_true.1 hN p hp
      simp [isK] at this ⊢; omega
    rw [this]; rfl
  have h1 := g P N S hP hN hS
  have h2 := g P' N' S' hP' hN' hS'
  have hh := half_of P N S hP hN hN0 hS
  have hh' := half_of P' N' S' hP' hN' hN0' hS'
  rw [hn] at hh
  rw [hn'] at hh'
  generalize P ++ N ++ S = L at *
  generalize P' ++ N' ++ S' = M at *
  have hi : idxF (isK 5) (L ++ c :: M) = L.length := by
    refine idxF_at _ _ _ (by simp) ?_ ?_
    · rw [List.take_left' rfl]; exact h1
    · simp [isK, hc]
  have hc1 : cntK 5 (L ++ c :: M) = 1 := by
    unfold cntK
    rw [List.countP_append, List.countP_cons, List.countP_eq_zero.2 (by simpa [List.any_eq_false] using h1), List.countP_eq_zero.2 (by simpa [List.any_eq_false] using h2)]
    simp [isK, hc]
  unfold parseT
  rw [hi, if_pos (by omega), if_pos hc1, Int.toNat_natCast, List.take_left' rfl]
  have e : (L ++ c :: M).drop (L.length + 1) = M := by
    rw [← List.drop_drop, List.drop_left' rfl]; rfl
  rw [e, halves_ok hh hh']; rfl
end Go.Proofs.YthoicieckodneaaGreatDoor.Pat

/- Patterns of numbers: a literal's text as it is printed: the closure flush over two strings.Builders. -/
namespace Go.Proofs.YthoicieckodneaaGreatDoor.Pat
open Go.RowKit Utf All Small Strs Build
set_option linter.unusedVariables false
set_option linter.unusedSimpArgs false

def dblB (l : List UInt8) : List UInt8 := l.flatMap fun b => if b = 39 then [39, 39] else [b]
/-- a run of signs that mean something, as it is printed -/
def escRun (l : List UInt8) : List UInt8 := if l.any (· != 39) then 39 :: (dblB l ++ [39]) else dblB l
theorem dblB_len (l : List UInt8) : l.length ≤ (dblB l).length ∧ (dblB l).length ≤ 2 * l.length := by
  induction l with
  | nil => simp [dblB]
  | cons b l ih =>
    have e : dblB (b :: l) = (if b = 39 then [39, 39] else [b]) ++ dblB l := rfl
    rw [e, List.length_append, List.length_cons]
    split <;> simp <;> omega
theorem escRun_len (l : List UInt8) : (escRun l).length ≤ 2 * l.length + 2 := by
  have := dblB_len l
  unfold escRun; split <;> simp <;> omega
theorem repK_ne (b c : UInt8) (new l : List UInt8) (k : Nat) (h : b ≠ c) : Lib.replaceK [c] new k (b :: l) = b :: Lib.replaceK [c] new k l := by
  cases k with
  | zero => rfl
  | succ k =>
    have hp : ([c].isPrefixOf (b :: l)) = false := by simp [List.isPrefixOf]; exact fun e => absurd e.symm h
    have hi : Lib.index (b :: l) [c] = if Lib.index l [c] == -1 then -1 else Lib.index l [c] + 1 := by rw [Lib.index, hp]; rfl
    by_cases hm : Lib.index l [c] == -1
    · rw [if_pos hm] at hi
      rw [Lib.replaceK, Lib.replaceK, if_pos hm, hi]; rfl
    · rw [if_neg hm] at hi
      have hge : -1 ≤ Lib.index l [c] := by rw [Lib.index_one]; exact Lib.indexByte_ge _ _
      have hne : Lib.index l [c] ≠ -1 := by simpa using hm
      have h2 : ¬ (Lib.index l [c] + 1 == -1) = true := by simp; omega
      rw [Lib.replaceK, hi, if_neg h2, Lib.replaceK, if_neg hm]
      have e : (Lib.index l [c] + 1).toNat = (Lib.index l [c]).toNat + 1 := by omega
      rw [e]
      simp
theorem repK_dbl (l : List UInt8) : Lib.replaceK [39] [39, 39] (l.count 39) l = dblB l := by
  induction l with
  | nil => rfl
  | cons b l ih =>
    by_cases h : b = 39
    · subst h
      have hi : Lib.index (39 :: l) [39] = 0 := by rw [Lib.index_one, Lib.indexByte]; simp
      rw [List.count_cons_self, Lib.replaceK, hi]
      simp [ih, dblB]
    · rw [List.count_cons_of_ne h, repK_ne b 39 _ l _ h, ih]
      simp [dblB, h]
theorem repAll (l : List UInt8) : Lib.replaceAll l [39] [39, 39] = dblB l := by
  unfold Lib.replaceAll Lib.replace
  rw [if_neg (by decide)]
  unfold Lib.replaceNum
  rw [if_pos (.inl (by decide)), Lib.count_one, repK_dbl]
theorem dw_nil {α : Type} (p : α → Bool) (l : List α) : l.dropWhile p = [] ↔ ∀ x ∈ l, p x = true := by
  induction l with
  | nil => simp
  | cons b l ih =>
    rw [List.dropWhile_cons]
    split
    · rename_i h; rw [ih]; simp [h]
    · rename_i h; simp [h]
theorem trimB_nil (x : List UInt8) (c : UInt8) : (Lib.trimB x c = []) ↔ x.any (· != c) = false := by
  unfold Lib.trimB Lib.trimLeftB Lib.trimRightB
  constructor
  · intro h
    rw [List.any_eq_false]
    intro b hb hne
    have h1 : ∀ y ∈ (x.reverse.dropWhile (· == c)).reverse, (y == c) = true := (dw_nil _ _).1 h
    cases hd : x.reverse.dropWhile (· == c) with
    | nil =>
      have := (dw_nil _ _).1 hd b (by simpa using hb)
      simp_all
    | cons z r =>
      have hz : ¬ (z == c) = true := by
        have := List.head?_dropWhile_not (p := (· == c)) x.reverse
        rw [hd] at this
        simpa using this
      exact hz (h1 z (by rw [hd]; simp))
  · intro h
    rw [List.any_eq_false] at h
    have h2 : x.reverse.dropWhile (· == c) = [] := (dw_nil _ _).2 fun y hy => by
      have := h y (by simpa using hy)
      simpa using this
    rw [h2]; rfl
theorem dbl_any (l : List UInt8) : (dblB l).any (· != 39) = l.any (· != 39) := by
  induction l with
  | nil => rfl
  | cons b l ih =>
    have e : dblB (b :: l) = (if b = 39 then [39, 39] else [b]) ++ dblB l := rfl
    rw [e, List.any_append, ih, List.any_cons]
    split
    · rename_i h; subst h; rfl
    · simp
theorem countB_le (l : List UInt8) : Lib.countB ⟨l.toArray⟩ ⟨#[39]⟩ ≤ l.length := by
  have : Lib.countB ⟨l.toArray⟩ ⟨#[39]⟩ = l.count 39 := Lib.count_one 39 _
  rw [this]; exact List.count_le_length


abbrev isBp (b : Nat) (p : Value) : Prop := p = .pointer none ∨ p = .pointer (some ⟨b, 0, none⟩)
/-- one part behind the other, seen from the first world -/
theorem ButS.on {S S' : Nat → Prop} {w1 w w' : World} (h : ButS S w1 w) (k : ButS S' w w') (hs : ∀ k, k < w1.heap.size → S' k → S k) : ButS S w1 w' :=
  ⟨k.os.trans h.os, k.tape.trans h.tape, k.output.trans h.output, Nat.le_trans h.size k.size, fun i hi hn => (k.block i (Nat.lt_of_lt_of_le hi h.size) (fun e => hn (hs i hi e))).trans (h.block i hi hn)⟩
abbrev Two (b : Nat) : Nat → Prop := fun k => k = b ∨ k = b + 1
/-- both builders of escaped (blocks b and b + 1; w1: the world behind which they are written): what is printed, and the run -/
structure EscR (b : Nat) (w1 w : World) (out run : List UInt8) : Prop where
  ex : ∃ p v q u base, w.heap[b]? = some (.cells #[p, v] 107 (0, 0)) ∧ isBp b p ∧ w.ownsRow w1.heap.size 5 1 v out.length (Lib.byteCells out) ∧
    w.heap[b + 1]? = some (.cells #[q, u] 107 (0, 0)) ∧ isBp (b + 1) q ∧ w.ownsRow base 5 1 u run.length (Lib.byteCells run) ∧
    (∀ k, v.ownBlock = some k → k < base) ∧ w1.heap.size ≤ base ∧ base ≤ w.heap.size ∧ (run = [] → u = .slice none 0 0)
  lt : b + 1 < w1.heap.size
  but : ButS (Two b) w1 w
theorem strCells_l (l : List UInt8) : Lib.strCells ⟨l.toArray⟩ = Lib.byteCells l := Lib.strCells_eq _
theorem cells_app (l m : List UInt8) : Lib.byteCells l ++ Lib.byteCells m = Lib.byteCells (l ++ m) := (Lib.byteCells_append l m).symm
theorem write_run (b : Nat) (w1 w : World) (out run s : List UInt8) (h : EscR b w1 w out run) (hs : s ≠ []) (hl : run.length + s.length ≤ 1000000000000) :
    Calls Tryz.prog 62 #[.pointer (some ⟨b + 1, 0, none⟩), .string ⟨s.toArray⟩] w fun e w' => e = .returned (.tuple #[.int .i64 s.length, .nilIface]) ∧ EscR b w1 w' out (run ++ s) := by
  obtain ⟨⟨p, v, q, u, base, hb, hp, hv, hr, hq, hu, hlt, hb2, hbw, hn⟩, hl1, hx⟩ := h
  have hsz : (⟨s.toArray⟩ : ByteArray).size = s.length := rfl
  have hne : v.ownBlock ≠ some (b + 1) := Lib.ownBlock_ne hv hr (by decide)
  rw [show run.length = (Lib.byteCells run).length by simp [Lib.byteCells]] at hu
  refine (write_two (b + 1) base q u (Lib.byteCells run) ⟨s.toArray⟩ w hr hq hu (by simp [Lib.byteCells, hsz]; omega) hbw).mono ?_
  rintro e w' ⟨rfl, u', h1, h2, h3, h4⟩
  refine ⟨by rw [hsz], ⟨p, v, _, u', base, ?_, hp, ?_, h1, .inr rfl, ?_, hlt, hb2, Nat.le_trans hbw h4.size, ?_⟩, hl1, ?_⟩
  · rw [h4.block _ (heap_lt hb) (by
      rintro (e | e)
      · omega
      · have := (hu.lt _ e).1; omega)]
    exact hb
  · refine own_move hv fun k hk => h4.block k (hv.lt k hk).2 ?_
    rintro (e | e)
    · exact hne (by rw [hk, e])
    · have := (hu.lt _ e).1; have := hlt k hk; omega
  · rw [strCells_l, cells_app] at h2
    simpa [Lib.byteCells] using h2
  · intro e; simp at e; exact absurd e.2 hs
  · exact ButS.on hx h4 (by
      rintro k hk (e | e)
      · exact .inr e
      · have := (hu.lt _ e).1; omega)
theorem write_out (b : Nat) (w1 w : World) (out s : List UInt8) (h : EscR b w1 w out []) (hl : out.length + s.length ≤ 1000000000000) :
    Calls Tryz.prog 62 #[.pointer (some ⟨b, 0, none⟩), .string ⟨s.toArray⟩] w fun e w' => e = .returned (.tuple #[.int .i64 s.length, .nilIface]) ∧ EscR b w1 w' (out ++ s) [] := by
  obtain ⟨⟨p, v, q, u, base, hb, hp, hv, hr, hq, hu, hlt, hb2, hbw, hn⟩, hl1, hx⟩ := h
  obtain rfl := hn rfl
  have hsz : (⟨s.toArray⟩ : ByteArray).size = s.length := rfl
  have hne : v.ownBlock ≠ some (b + 1) := Lib.ownBlock_ne hv hr (by decide)
  rw [show out.length = (Lib.byteCells out).length by simp [Lib.byteCells]] at hv
  refine (write_two b w1.heap.size p v (Lib.byteCells out) ⟨s.toArray⟩ w hb hp hv (by simp [Lib.byteCells, hsz]; omega) hx.size).mono ?_
  rintro e w' ⟨rfl, v', h1, h2, h3, h4⟩
  refine ⟨by rw [hsz], ⟨_, v', q, _, w'.heap.size, h1, .inr rfl, ?_, ?_, hq, World.ownsRow_nil _ _ _ _, fun k hk => (h2.lt k hk).2, Nat.le_trans hx.size h4.size, Nat.le_refl _, fun _ => rfl⟩, hl1, ?_⟩
  · rw [strCells_l, cells_app] at h2
    simpa [Lib.byteCells] using h2
  · rw [h4.block _ (heap_lt hr) (by
      rintro (e | e)
      · omega
      · exact hne e)]
    exact hr
  · exact ButS.on hx h4 (by
      rintro k hk (e | e)
      · exact .inl e
      · have := (hv.lt _ e).1; omega)
/-- a builder in the midst of flush: what is printed stands, the run's is of whatever content -/
def Mid (b : Nat) (w1 w : World) (out : List UInt8) : Prop := ∃ p v q u, w.heap[b]? = some (.cells #[p, v] 107 (0, 0)) ∧ isBp b p ∧ w.ownsRow w1.heap.size 5 1 v out.length (Lib.byteCells out) ∧
      w.heap[b + 1]? = some (.cells #[q, u] 107 (0, 0)) ∧ b + 1 < w1.heap.size ∧ ButS (Two b) w1 w
theorem Mid.ext {b : Nat} {w1 w w' : World} {out : List UInt8} (h : Mid b w1 w out) (hx : Ext w w') : Mid b w1 w' out := by
  obtain ⟨p, v, q, u, hb, hp, hv, hr, hl, hbut⟩ := h
  exact ⟨p, v, q, u, (hx.block _ (heap_lt hb)).trans hb, hp, own_move hv fun k hk => hx.block k (hv.lt k hk).2, (hx.block _ (heap_lt hr)).trans hr, hl, ButS.on hbut (ButS.of_ext (S := fun _ => False) hx) fun _ _ e => e.elim⟩
theorem str_run (b : Nat) (w1 w : World) (out run : List UInt8) (h : EscR b w1 w out run) :
    Calls Tryz.prog 63 #[.pointer (some ⟨b + 1, 0, none⟩)] w fun e w' => e = .returned (.string ⟨run.toArray⟩) ∧ Mid b w1 w' out := by
  obtain ⟨⟨p, v, q, u, base, hb, hp, hv, hr, hq, hu, hlt, hb2, hbw, hn⟩, hl1, hx⟩ := h
  refine (str_two (b + 1) base q u run w hr hu hn).mono ?_
  rintro e w' ⟨rfl, h4⟩
  have hner : u.ownBlock ≠ some (b + 1) := Lib.ownBlock_ne hu hr (by decide)
  refine ⟨rfl, p, v, q, u, ?_, hp, ?_, ?_, hl1, ?_⟩
  · rw [h4.block _ (heap_lt hb) (fun e => by have := (hu.lt _ e).1; omega)]; exact hb
  · exact own_move hv fun k hk => h4.block k (hv.lt k hk).2 fun e => by have := (hu.lt _ e).1; have := hlt k hk; omega
  · rw [h4.block _ (heap_lt hr) hner]; exact hr
  · exact ButS.on hx h4 (fun k hk e => by have := (hu.lt _ e).1; omega)
theorem write_b (b : Nat) (w1 w : World) (out s : List UInt8) (h : Mid b w1 w out) (hl : out.length + s.length ≤ 1000000000000) :
    Calls Tryz.prog 62 #[.pointer (some ⟨b, 0, none⟩), .string ⟨s.toArray⟩] w fun e w' => e = .returned (.tuple #[.int .i64 s.length, .nilIface]) ∧ Mid b w1 w' (out ++ s) := by
  obtain ⟨p, v, q, u, hb, hp, hv, hr, hl1, hx⟩ := h
  have hsz : (⟨s.toArray⟩ : ByteArray).size = s.length := rfl
  have hne : v.ownBlock ≠ some (b + 1) := Lib.ownBlock_ne hv hr (by decide)
  rw [show out.length = (Lib.byteCells out).length by simp [Lib.byteCells]] at hv
  refine (write_two b w1.heap.size p v (Lib.byteCells out) ⟨s.toArray⟩ w hb hp hv (by simp [Lib.byteCells, hsz]; omega) hx.size).mono ?_
  rintro e w' ⟨rfl, v', h1, h2, h3, h4⟩
  refine ⟨by rw [hsz], _, v', q, u, h1, .inr rfl, ?_, ?_, hl1, ?_⟩
  · rw [strCells_l, cells_app] at h2
    simpa [Lib.byteCells] using h2
  · rw [h4.block _ (heap_lt hr) (by
      rintro (e | e)
      · omega
      · exact hne e)]
    exact hr
  · exact ButS.on hx h4 (by
      rintro k hk (e | e)
      · exact .inl e
      · have := (hv.lt _ e).1; omega)

theorem esc_none {l : List UInt8} (h : l.any (· != 39) = false) : Lib.trimB (dblB l) 39 = [] ∧ escRun l = dblB l := by
  refine ⟨(trimB_nil _ _).2 (by rw [dbl_any]; exact h), ?_⟩
  unfold escRun; rw [h]; rfl
theorem esc_some {l : List UInt8} (h : l.any (· != 39) = true) : Lib.trimB (dblB l) 39 ≠ [] ∧ escRun l = 39 :: (dblB l ++ [39]) := by
  refine ⟨fun e => ?_, ?_⟩
  · have := (trimB_nil _ _).1 e
    rw [dbl_any, h] at this; cases this
  · unfold escRun; rw [h]; rfl
theorem quoted_mk (l : List UInt8) : (⟨#[39]⟩ : ByteArray) ++ ⟨l.toArray⟩ ++ ⟨#[39]⟩ = ⟨(39 :: (l ++ [39])).toArray⟩ := by
  refine bytes_ext ?_
  simp
theorem cell_of_mid {b : Nat} {w1 w : World} {out : List UInt8} (h : Mid b w1 w out) (h0 : 2 < b) (HM : ∃ m, w1.cell? ⟨2, 0, none⟩ = some (.int .i64 m)) : ∃ m, w.cell? ⟨2, 0, none⟩ = some (.int .i64 m) := by
  obtain ⟨p, v, q, u, hb, hp, hv, hr, hl1, hx⟩ := h
  obtain ⟨m, hm⟩ := HM
  exact ⟨m, (World.cell?_of_block (a := ⟨2, 0, none⟩) (hx.block 2 (by omega) (by rintro (e | e) <;> omega))).trans hm⟩
end Go.Proofs.YthoicieckodneaaGreatDoor.Pat

/- Patterns of numbers: a literal's text as it is printed: the walk of escaped. -/
namespace Go.Proofs.YthoicieckodneaaGreatDoor.Pat
open Go.RowKit Utf All Small Strs Build EncC
set_option linter.unusedVariables false
set_option linter.unusedSimpArgs false

/-- does a character mean something? -/
def special (c : Int) : Bool := decide (c = 39) || decide (kindL c ≠ 0)
def escF : List Int → List UInt8 → List UInt8 → List UInt8
  | [], out, run => out ++ escRun run
  | c :: r, out, run => if special c then escF r out (run ++ encB c) else escF r (out ++ escRun run ++ encB c) []
def escL (s : List UInt8) : List UInt8 := escF (charsL s) [] []
theorem escR_start (w v : World) (hx : Ext ((w.alloc (.cells #[.pointer none, .slice none 0 0] 107)).alloc (.cells #[.pointer none, .slice none 0 0] 107)) v) :
    EscR w.heap.size v v [] [] := by
  have h1 : v.heap[w.heap.size]? = some (.cells #[.pointer none, .slice none 0 0] 107 (0, 0)) := by
    rw [hx.block _ (by simp; omega), Lib.alloc_old _ _ _ (by simp)]; exact heap_alloc_new w _
  have h2 : v.heap[w.heap.size + 1]? = some (.cells #[.pointer none, .slice none 0 0] 107 (0, 0)) := by
    rw [hx.block _ (by simp)]
    have := heap_alloc_new (w.alloc (.cells #[.pointer none, .slice none 0 0] 107)) (.cells #[.pointer none, .slice none 0 0] 107)
    rwa [World.size_alloc] at this
  have h3 := hx.size
  simp at h3
  exact ⟨⟨_, _, _, _, v.heap.size, h1, .inl rfl, World.ownsRow_nil _ _ _ _, h2, .inl rfl, World.ownsRow_nil _ _ _ _, fun k hk => by simp [Value.ownBlock] at hk, Nat.le_refl _, Nat.le_refl _, fun _ => rfl⟩, by omega, ButS.refl _ _⟩
theorem Row.but {b : Nat} {v w : World} {A : Option Addr} {cs : List Value} (h : Row v A cs) (hb : ButS (Two b) v w) (hf : ∀ g off, A = some ⟨g, off, none⟩ → cs ≠ [] → g ≠ b ∧ g ≠ b + 1) : Row w A cs := by
  rcases h with h | ⟨g, off, rfl, h⟩
  · exact .inl h
  · refine .inr ⟨g, off, rfl, fun j u hj => ?_⟩
    have hg := block_lt (h j u hj)
    have := hf g off rfl (by rintro rfl; simp at hj)
    exact (World.cell?_of_block (hb.block g hg (by rintro (e | e) <;> simp_all))).trans (h j u hj)
theorem EscR.ext {b : Nat} {w1 w w' : World} {out run : List UInt8} (h : EscR b w1 w out run) (hx : Ext w w') : EscR b w1 w' out run := by
  obtain ⟨⟨p, v, q, u, base, hb, hp, hv, hr, hq, hu, hlt, hb2, hbw, hn⟩, hl1, hbut⟩ := h
  exact ⟨⟨p, v, q, u, base, (hx.block _ (heap_lt hb)).trans hb, hp, own_move hv fun k hk => hx.block k (hv.lt k hk).2, (hx.block _ (heap_lt hr)).trans hr, hq, own_move hu fun k hk => hx.block k (hu.lt k hk).2, hlt, hb2, Nat.le_trans hbw hx.size, hn⟩, hl1,
    ButS.on hbut (ButS.of_ext (S := fun _ => False) hx) fun _ _ e => e.elim⟩
theorem cell_of_esc {b : Nat} {w1 w : World} {out run : List UInt8} (h : EscR b w1 w out run) (h0 : 2 < b) (hl : b < w1.heap.size) (HM : ∃ m, w1.cell? ⟨2, 0, none⟩ = some (.int .i64 m)) : ∃ m, w.cell? ⟨2, 0, none⟩ = some (.int .i64 m) := by
  obtain ⟨m, hm⟩ := HM
  exact ⟨m, (World.cell?_of_block (a := ⟨2, 0, none⟩) (h.but.block 2 (by omega) (by rintro (e | e) <;> omega))).trans hm⟩
theorem str_out (b : Nat) (w1 w : World) (out run : List UInt8) (h : EscR b w1 w out run) :
    Calls Tryz.prog 63 #[.pointer (some ⟨b, 0, none⟩)] w fun e w' => e = .returned (.string ⟨out.toArray⟩) ∧ Below b w w' := by
  obtain ⟨⟨p, v, q, u, base, hb, hp, hv, hr, hq, hu, hlt, hb2, hbw, hn⟩, hl1, hbut⟩ := h
  have hv' : w.ownsRow b 5 1 v (Lib.byteCells out).length (Lib.byteCells out) := own_base (by simpa [Lib.byteCells] using hv) fun k hk => by have := (hv.lt k hk).1; omega
  have hbl := heap_lt hb
  refine Tryz.Builder_String_any b b out w ?_ (by omega)
  rcases hp with rfl | rfl
  · exact .inl ⟨Nat.le_refl _, v, hb, hv', Lib.ownBlock_ne hv hb (by decide)⟩
  · exact .inr ⟨Nat.le_refl _, v, hb, hv', Lib.ownBlock_ne hv hb (by decide)⟩
theorem row_off {b : Nat} {w : World} {A : Option Addr} {xs : List Int} (h : Row w A (xs.map (Value.int .i64))) (hb : w.heap[b]? = some (.cells #[.pointer none, .slice none 0 0] 107 (0, 0)))
    (hr : w.heap[b + 1]? = some (.cells #[.pointer none, .slice none 0 0] 107 (0, 0))) : ∀ g off, A = some ⟨g, off, none⟩ → xs.map (Value.int .i64) ≠ [] → g ≠ b ∧ g ≠ b + 1 := by
  rintro g off rfl hne
  obtain ⟨x, r, rfl⟩ : ∃ x r, xs = x :: r := by
    cases xs with
    | nil => simp at hne
    | cons x r => exact ⟨x, r, rfl⟩
  obtain ⟨g', off', e1, hc⟩ := row_int h (k := 0) (by simp)
  injection e1 with e1
  injection e1 with e1 e2
  subst e1; subst e2
  refine ⟨?_, ?_⟩
  · rintro rfl
    rw [Lib.cell_of_heap hb] at hc
    match off, hc with
    | 0, hc => simp at hc
    | 1, hc => simp at hc
    | n + 2, hc => simp at hc
  · rintro rfl
    rw [Lib.cell_of_heap hr] at hc
    match off, hc with
    | 0, hc => simp at hc
    | 1, hc => simp at hc
    | n + 2, hc => simp at hc
theorem special_39 : special 39 = true := rfl
theorem escF_spec {c : Int} {r : List Int} {out run : List UInt8} (h : special c = true) : escF (c :: r) out run = escF r out (run ++ encB c) := by rw [escF, if_pos h]
theorem escF_plain {c : Int} {r : List Int} {out run : List UInt8} (h : special c = false) : escF (c :: r) out run = escF r (out ++ escRun run ++ encB c) [] := by rw [escF, if_neg (by simp [h])]
theorem encB_ne {c : Int} (h : mayC c = true) : encB c ≠ [] := fun e => by have := (encB_len h).1; rw [e] at this; simp at this
end Go.Proofs.YthoicieckodneaaGreatDoor.Pat

/- Patterns of numbers: Print, of patterns without decimals and groups, and with the plain negative half; pieces; whether pieces are the same; Resolve. -/
namespace Go.Proofs.YthoicieckodneaaGreatDoor.Pat
open Go.RowKit Utf All Small Strs Build EncC
set_option linter.unusedVariables false
set_option linter.unusedSimpArgs false

/-! ### slices.Equal over pieces -/
theorem pcStruct : Tryz.prog.underlying 159 = some (.struct (Tryz.prog.fieldsOf 159)) := by kernel_rfl
theorem pcHeld : Tryz.prog.stoodInHeld 159 = false := by kernel_rfl
theorem pcGuard : Tryz.prog.eqGuardType Tryz.prog.depth 159 = false := by kernel_rfl
theorem neq_pc (x y : Pc) (w : World) : (binOp .neq 159 (.agg #[.int .i64 x.1, .string ⟨x.2.toArray⟩]) (.agg #[.int .i64 y.1, .string ⟨y.2.toArray⟩])).run Tryz.prog w = .ok (.bool (!decide (x = y))) w := by
  have u3 := Tryz.underlying3
  have a3 := Tryz.isAgg3
  have z3 := Tryz.sizeOf3
  have u9 := Tryz.underlying9
  have a9 := Tryz.isAgg9
  have z9 := Tryz.sizeOf9
  obtain ⟨k, t⟩ := x
  obtain ⟨j, u⟩ := y
  rw [run_neq_struct, show (10000 : Nat) = 9999 + 1 from rfl, run_equalIn_agg w 9999 159 _ _ pcStruct pcHeld]
  simp only [Program.fieldsOf, Tryz.underlying159]
  have hb := beq_strL ⟨t.toArray⟩ ⟨u.toArray⟩
  have hd : (⟨t.toArray⟩ : ByteArray).data.toList = t := rfl
  have hd2 : (⟨u.toArray⟩ : ByteArray).data.toList = u := rfl
  rw [hd, hd2] at hb
  go_simp
  by_cases h1 : k = j <;> by_cases h2 : t = u <;> simp [h1, h2, hb]

/-! ### pieces, of literals alone -/
def litF (l : List Pc) : List UInt8 := l.flatMap fun p => escL p.2
theorem escF_len : ∀ (xs : List Int) (out run : List UInt8), (∀ x ∈ xs, mayC x = true) → (escF xs out run).length ≤ out.length + 2 * run.length + 2 + 8 * xs.length
  | [], out, run, _ => by have := escRun_len run; simp [escF]; omega
  | c :: r, out, run, h => by
    have hc := encB_len (h c (by simp))
    have hm := escRun_len run
    rw [escF]
    split
    · have := escF_len r out (run ++ encB c) (fun x hx => h x (by simp [hx]))
      simp only [List.length_append, List.length_cons] at this ⊢; omega
    · have := escF_len r (out ++ escRun run ++ encB c) [] (fun x hx => h x (by simp [hx]))
      simp only [List.length_append, List.length_cons, List.length_nil] at this ⊢; omega
theorem escL_len (s : List UInt8) : (escL s).length ≤ 2 + 8 * s.length := by
  have h1 := escF_len (charsL s) [] [] (charsL_may s)
  have h2 : (charsL s).length ≤ s.length := chars_len ⟨s.toArray⟩
  unfold escL
  simp only [List.length_nil] at h1; omega
theorem litF_snoc {l : List Pc} {k : Nat} (hk : k < l.length) : litF (l.take (k + 1)) = litF (l.take k) ++ escL l[k].2 := by
  unfold litF; rw [List.take_succ_eq_append_getElem hk, List.flatMap_append]; simp

/-! ### a number's signs, of at most one digit -/
def sigB (m : Int) : List UInt8 := if m = 0 then [35] else [48]
end Go.Proofs.YthoicieckodneaaGreatDoor.Pat

/- Patterns of numbers: the walk of Print, at patterns without groups and decimals, whose negative half is the plain one. -/
namespace Go.Proofs.YthoicieckodneaaGreatDoor.Pat
open Go.RowKit Utf All Small Strs Build EncC
set_option linter.unusedVariables false
set_option linter.unusedSimpArgs false

theorem litF_len (l : List Pc) (h : ∀ x ∈ l, x.1 = 0 ∧ x.2.length ≤ 100000) : (litF l).length ≤ 800002 * l.length := by
  induction l with
  | nil => simp [litF]
  | cons x l ih =>
    have h1 := escL_len x.2
    have h2 := (h x (by simp)).2
    have h3 := ih (fun y hy => h y (by simp [hy]))
    have e : litF (x :: l) = escL x.2 ++ litF l := rfl
    rw [e, List.length_append, List.length_cons]; omega
theorem sigB_len (m : Int) : (sigB m).length = 1 := by unfold sigB; split <;> rfl
def printF (p s : List Pc) (m : Int) : List UInt8 := litF p ++ sigB m ++ litF s
end Go.Proofs.YthoicieckodneaaGreatDoor.Pat

/- The laws' own example (lives), and Parse at texts that are known. -/
namespace Go.Proofs.YthoicieckodneaaGreatDoor.Pat
open Go.RowKit Utf All Small Strs Build EncC
set_option linter.unusedVariables false
set_option linter.unusedSimpArgs false

theorem pos_of {w : World} (HM : ∃ m, w.cell? ⟨2, 0, none⟩ = some (.int .i64 m)) : 2 < w.heap.size := by
  obtain ⟨m, hm⟩ := HM
  exact block_lt hm
theorem parse_ok {s : ByteArray} {p : Pt} (hp : parseF s.data.toList = .ok p) (w : World) (hs : s.size ≤ 100000000) :
    Calls Tryz.prog 70 #[.string s] w fun e w' => ∃ A c B d C a D b, e = .returned (.tuple #[.agg (patC (.slice A p.pre.length c) (.slice B p.suf.length d) (.slice C p.npre.length a) (.slice D p.nsuf.length b) p.num).toArray, .int .i64 0]) ∧
      Row w' A (pcsV p.pre) ∧ Row w' B (pcsV p.suf) ∧ Row w' C (pcsV p.npre) ∧ Row w' D (pcsV p.nsuf) ∧ Okc A c ∧ Okc B d ∧ Okc C a ∧ Okc D b ∧ Ext w w' :=
  (parse_ s w hs).mono fun e w' h => by rw [hp] at h; exact h
theorem parse_no {s : ByteArray} {x : Int} (hp : parseF s.data.toList = .error x) (w : World) (hs : s.size ≤ 100000000) :
    Calls Tryz.prog 70 #[.string s] w fun e w' => e = .returned (errV x) ∧ Ext w w' :=
  (parse_ s w hs).mono fun e w' h => by rw [hp] at h; exact h
def lives1 : Pt := ⟨[], [(0, [32, 120])], [(3, [])], [(0, [32, 120])], ⟨3, 3, 1, 2, 2⟩⟩
def lives2 : Pt := ⟨[(0, [40])], [(0, [41])], [(3, []), (0, [40])], [(0, [41])], ⟨0, 0, 1, 0, 0⟩⟩
theorem livesP1 : parseF [35, 44, 35, 35, 48, 46, 48, 48, 32, 120] = .ok lives1 := by kernel_rfl
theorem livesP2 : parseF [40, 48, 41] = .ok lives2 := by kernel_rfl
theorem livesT : (printF lives2.pre lives2.suf 1) = [40, 48, 41] := by kernel_rfl
end Go.Proofs.YthoicieckodneaaGreatDoor.Pat

/- Patterns of numbers: whether two are the same; pieces' texts. (Printed by wip/gen/same.py.) -/
namespace Go.Proofs.YthoicieckodneaaGreatDoor.Pat
open Go.RowKit Utf All Small Strs Build EncC
set_option linter.unusedVariables false
set_option linter.unusedSimpArgs false

/-- a pattern's value, and where its pieces lie -/
def ptV (A B C D : Option Addr) (c d a b : Nat) (p : Pt) : Value := .agg (patC (.slice A p.pre.length c) (.slice B p.suf.length d) (.slice C p.npre.length a) (.slice D p.nsuf.length b) p.num).toArray
def PtR (w : World) (A B C D : Option Addr) (p : Pt) : Prop := Row w A (pcsV p.pre) ∧ Row w B (pcsV p.suf) ∧ Row w C (pcsV p.npre) ∧ Row w D (pcsV p.nsuf)
theorem PtR.ext {w w' : World} {A B C D : Option Addr} {p : Pt} (h : PtR w A B C D p) (hx : Ext w w') : PtR w' A B C D p := ⟨h.1.below hx (Nat.le_refl _), h.2.1.below hx (Nat.le_refl _), h.2.2.1.below hx (Nat.le_refl _), h.2.2.2.below hx (Nat.le_refl _)⟩
def PtB (p : Pt) : Prop := p.pre.length ≤ 1000000000 ∧ p.suf.length ≤ 1000000000 ∧ p.npre.length ≤ 1000000000 ∧ p.nsuf.length ≤ 1000000000

def resF (cur per min : List UInt8) (l : List Pc) : List UInt8 := l.flatMap fun p => if p.1 = 1 then cur else if p.1 = 2 then per else if p.1 = 3 then min else p.2
theorem resF_snoc (cur per min : List UInt8) {l : List Pc} {k : Nat} (hk : k < l.length) : resF cur per min (l.take (k + 1)) = resF cur per min (l.take k) ++ (if l[k].1 = 1 then cur else if l[k].1 = 2 then per else if l[k].1 = 3 then min else l[k].2) := by
  unfold resF; rw [List.take_succ_eq_append_getElem hk, List.flatMap_append]; simp
set_option maxHeartbeats 4000000 in
set_option maxRecDepth 100000 in
theorem resolve_ (A : Option Addr) (c : Nat) (cur per min : List UInt8) (l : List Pc) (w : World) (hA : Row w A (pcsV l)) (hl : l.length ≤ 1000) (hc : cur.length ≤ 100000) (hp : per.length ≤ 100000) (hm : min.length ≤ 100000) (hk : ∀ p ∈ l, p.2.length ≤ 100000) :
    Calls Tryz.prog 158 #[.slice A l.length c, .string ⟨cur.toArray⟩, .string ⟨per.toArray⟩, .string ⟨min.toArray⟩] w fun e w' => e = .returned (.string ⟨(resF cur per min l).toArray⟩) ∧ Ext w w' := by
  have HK := Lib.hid hk
  clear hk
  go_enter Tryz.func158, Tryz.ntmps158
  go_wp2
  go_loopw [9, 14] (fun s i wr => ∃ k : Nat, k ≤ l.length ∧ i = .int .i64 k ∧ Ext w wr ∧ s = .string ⟨(resF cur per min (l.take k)).toArray⟩ ∧ (resF cur per min (l.take k)).length ≤ 100000 * k) (fun _ i _ => l.length - (intOf i).toNat)
  case atStart => exact ⟨0, Nat.zero_le _, rfl, Ext.refl _, rfl, by simp [resF]⟩
  case round =>
    obtain ⟨k, hk, rfl, hx, rfl, hle⟩ := hrel
    by_cases hlt : k < l.length
    · obtain ⟨b, off, rfl, hc1, hc2⟩ := row_pc (hA.below hx (Nat.le_refl _)) hlt
      have HR := Lib.hid (pc_range hc1 hc2)
      have HS := Lib.hid (resF_snoc cur per min hlt)
      have ht := HK.out _ (List.getElem_mem hlt)
      generalize l[k] = x at *
      obtain ⟨j, t⟩ := x
      simp only at ht
      have hbx := Box.new wr 159 [.int .i64 j, .string ⟨t.toArray⟩]
      have HX : Hid (Ext w (wr.alloc (.cells #[.int .i64 j, .string ⟨t.toArray⟩] 159))) := Lib.hid (Ext.alloc_ hx _)
      clear hx
      by_cases h1 : j = 1
      · have HV : Hid ((if (j, t).1 = 1 then cur else if (j, t).1 = 2 then per else if (j, t).1 = 3 then min else (j, t).2) = cur) := Lib.hid (by simp only; rw [if_pos h1])
        have hb1 : (j == 1) = true := by simpa using h1
        clear h1
        go_wp2_with (first | (refine wpList_load_mid rfl 159 (.tmp 16) rfl b (off + k * 2) rfl [.int .i64 j, .string ⟨t.toArray⟩] _ HR.out Tryz.underlying159 rfl infoPc ?_))
        go_roundw
        case rel => exact ⟨k + 1, by omega, by go_num, HX.out, by rw [HS.out, HV.out, app_mk], by rw [HS.out, HV.out, List.length_append]; omega⟩
        case measure => simp [intOf]; omega
      by_cases h2 : j = 2
      · have HV : Hid ((if (j, t).1 = 1 then cur else if (j, t).1 = 2 then per else if (j, t).1 = 3 then min else (j, t).2) = per) := Lib.hid (by simp only; rw [if_neg h1, if_pos h2])
        have hb1 : (j == 1) = false := by simpa using h1
        have hb2 : (j == 2) = true := by simpa using h2
        clear h1 h2
        go_wp2_with (first | (refine wpList_load_mid rfl 159 (.tmp 16) rfl b (off + k * 2) rfl [.int .i64 j, .string ⟨t.toArray⟩] _ HR.out Tryz.underlying159 rfl infoPc ?_))
        go_roundw
        case rel => exact ⟨k + 1, by omega, by go_num, HX.out, by rw [HS.out, HV.out, app_mk], by rw [HS.out, HV.out, List.length_append]; omega⟩
        case measure => simp [intOf]; omega
      by_cases h3 : j = 3
      · have HV : Hid ((if (j, t).1 = 1 then cur else if (j, t).1 = 2 then per else if (j, t).1 = 3 then min else (j, t).2) = min) := Lib.hid (by simp only; rw [if_neg h1, if_neg h2, if_pos h3])
        have hb1 : (j == 1) = false := by simpa using h1
        have hb2 : (j == 2) = false := by simpa using h2
        have hb3 : (j == 3) = true := by simpa using h3
        clear h1 h2 h3
        go_wp2_with (first | (refine wpList_load_mid rfl 159 (.tmp 16) rfl b (off + k * 2) rfl [.int .i64 j, .string ⟨t.toArray⟩] _ HR.out Tryz.underlying159 rfl infoPc ?_))
        go_roundw
        case rel => exact ⟨k + 1, by omega, by go_num, HX.out, by rw [HS.out, HV.out, app_mk], by rw [HS.out, HV.out, List.length_append]; omega⟩
        case measure => simp [intOf]; omega
      have HV : Hid ((if (j, t).1 = 1 then cur else if (j, t).1 = 2 then per else if (j, t).1 = 3 then min else (j, t).2) = t) := Lib.hid (by simp only; rw [if_neg h1, if_neg h2, if_neg h3])
      have hb1 : (j == 1) = false := by simpa using h1
      have hb2 : (j == 2) = false := by simpa using h2
      have hb3 : (j == 3) = false := by simpa using h3
      clear h1 h2 h3
      go_wp2_with (first | (refine wpList_load_mid rfl 159 (.tmp 16) rfl b (off + k * 2) rfl [.int .i64 j, .string ⟨t.toArray⟩] _ HR.out Tryz.underlying159 rfl infoPc ?_))
      go_roundw
      case rel => exact ⟨k + 1, by omega, by go_num, HX.out, by rw [HS.out, HV.out, app_mk], by rw [HS.out, HV.out, List.length_append]; omega⟩
      case measure => simp [intOf]; omega
    · have e : k = l.length := by omega
      subst e
      rw [List.take_length]
      go_wp2
      go_ret
      exact ⟨rfl, hx⟩
end Go.Proofs.YthoicieckodneaaGreatDoor.Pat
