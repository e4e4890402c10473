/- Joined by wip/join.py: PatT PatE PatF PatG PatH PatL PatS. -/
import Derived.Test.YtdkjkbbibdppoaaGreatDoorJPat2
import Derived.Test.YtdkjkbbibdppoaaGreatDoorJPat1
import Derived.Test.YtdkjkbbibdppoaaGreatDoorJBuild
import Derived.Laws.StructEq
import Derived.Deep.MidRow
import Derived.Deep.RegionHeld3
import Derived.Deep.RegionWith
import Derived.Deep.DeepCutAuto
/- Patterns of numbers, plain laws: how a text's pieces lie side by side; halves of a text without a second half; quotes. No program. -/
namespace Go.Proofs.YtdkjkbbibdppoaaGreatDoor.Pat
open Go.RowKit Utf All Small EncC
set_option linter.unusedVariables false
set_option linter.unusedSimpArgs false

/-- Does a text not begin with a quote? -/
def noQ : List Int → Bool
  | [] => true
  | c :: _ => c != 39
theorem noQ_ne {ys : List Int} (h : noQ ys = true) : ∀ c r', ys = c :: r' → c ≠ 39 := by
  intro c r' e; subst e; simpa [noQ] using h
theorem map_app (l m : List Pc) (o : Option (List Pc)) : (o.map (m ++ ·)).map (l ++ ·) = o.map ((l ++ m) ++ ·) := by cases o <;> simp
theorem cons_app (x : Pc) (o : Option (List Pc)) (l : List Pc) : (o.map (l ++ ·)).map (x :: ·) = o.map ((x :: l) ++ ·) := by cases o <;> simp
theorem tokS_app : ∀ (xs : List Int) (q p : Bool) (l : List Pc) (ys : List Int), tokS q p xs = some l → noQ ys = true → tokS q p (xs ++ ys) = (tokS false false ys).map (l ++ ·)
  | [], q, p, l, ys, h, hy => by
    cases p
    · cases q <;> simp [tokS] at h
      subst h; simp
    · cases q <;> simp [tokS] at h
      subst h
      rw [List.nil_append, tokS_toggle true ys (noQ_ne hy)]; simp
  | c :: r, q, p, l, ys, h, hy => by
    rw [List.cons_append]
    cases p
    · rw [tokS] at h ⊢
      by_cases hc : c = 39
      · rw [if_pos hc] at h ⊢; exact tokS_app r q true l ys h hy
      · rw [if_neg hc] at h ⊢
        cases q
        · simp only [Bool.false_eq_true, if_false] at h ⊢
          split at h
          · cases h
          · rename_i hk
            rw [if_neg hk]
            obtain ⟨m, hm, rfl⟩ := Option.map_eq_some_iff.1 h
            rw [tokS_app r false false m ys hm hy, cons_app]
        · simp only [if_true] at h ⊢
          obtain ⟨m, hm, rfl⟩ := Option.map_eq_some_iff.1 h
          rw [tokS_app r true false m ys hm hy, cons_app]
    · rw [tokS] at h ⊢
      by_cases hc : c = 39
      · rw [if_pos hc] at h ⊢
        obtain ⟨m, hm, rfl⟩ := Option.map_eq_some_iff.1 h
        rw [tokS_app r q false m ys hm hy, cons_app]
      · rw [if_neg hc] at h ⊢
        cases q
        · simp only [Bool.false_eq_true, if_false] at h ⊢
          obtain ⟨m, hm, rfl⟩ := Option.map_eq_some_iff.1 h
          rw [tokS_app r true false m ys hm hy, cons_app]
        · simp only [if_true] at h ⊢
          split at h
          · cases h
          · rename_i hk
            rw [if_neg hk]
            obtain ⟨m, hm, rfl⟩ := Option.map_eq_some_iff.1 h
            rw [tokS_app r false false m ys hm hy, cons_app]

/-- By the parity of the quotes: outside a quotation stand literals and places alone, and the last quotation ends. -/
def gd : Bool → List Int → Bool
  | q, [] => !q
  | q, c :: r => if c = 39 then gd (!q) r else (q || (decide (0 ≤ kindL c) && decide (kindL c < 4))) && gd q r
def low (l : List Pc) : Prop := ∀ p ∈ l, 0 ≤ p.1 ∧ p.1 < 4
theorem low_nil : low [] := fun _ h => by cases h
theorem low_cons {x : Pc} {l : List Pc} (h : 0 ≤ x.1 ∧ x.1 < 4) (hl : low l) : low (x :: l) := fun p hp => by
  rcases List.mem_cons.1 hp with rfl | hp
  · exact h
  · exact hl p hp
theorem low_app {l m : List Pc} (h : low l) (k : low m) : low (l ++ m) := fun p hp => by
  rcases List.mem_append.1 hp with hp | hp
  · exact h p hp
  · exact k p hp
theorem gd_tok : ∀ (xs : List Int) (q : Bool), (gd q xs = true → ∃ l, tokS q false xs = some l ∧ low l) ∧ (gd (!q) xs = true → ∃ l, tokS q true xs = some l ∧ low l)
  | [], q => by
    constructor
    · intro h; cases q <;> simp [gd] at h
      exact ⟨[], rfl, low_nil⟩
    · intro h; cases q <;> simp [gd] at h
      exact ⟨[], rfl, low_nil⟩
  | c :: r, q => by
    constructor
    · intro h
      rw [gd] at h
      rw [tokS]
      by_cases hc : c = 39
      · rw [if_pos hc] at h ⊢
        exact (gd_tok r q).2 h
      · rw [if_neg hc] at h ⊢
        cases q
        · simp only [Bool.false_or, Bool.and_eq_true, decide_eq_true_eq] at h
          simp only [Bool.false_eq_true, if_false]
          rw [if_neg (by omega)]
          obtain ⟨l, hl, h2⟩ := (gd_tok r false).1 h.2
          exact ⟨_, by rw [hl]; rfl, low_cons h.1 h2⟩
        · simp only [Bool.true_or, Bool.true_and] at h
          simp only [if_true]
          obtain ⟨l, hl, h2⟩ := (gd_tok r true).1 h
          exact ⟨_, by rw [hl]; rfl, low_cons ⟨Int.le_refl (0 : Int), (by omega : (0 : Int) < 4)⟩ h2⟩
    · intro h
      rw [gd] at h
      rw [tokS]
      by_cases hc : c = 39
      · rw [if_pos hc] at h ⊢
        rw [Bool.not_not] at h
        obtain ⟨l, hl, h2⟩ := (gd_tok r q).1 h
        exact ⟨_, by rw [hl]; rfl, low_cons ⟨Int.le_refl (0 : Int), (by omega : (0 : Int) < 4)⟩ h2⟩
      · rw [if_neg hc] at h ⊢
        cases q
        · simp only [Bool.not_false, Bool.true_or, Bool.true_and] at h
          simp only [Bool.false_eq_true, if_false]
          obtain ⟨l, hl, h2⟩ := (gd_tok r true).1 h
          exact ⟨_, by rw [hl]; rfl, low_cons ⟨Int.le_refl (0 : Int), (by omega : (0 : Int) < 4)⟩ h2⟩
        · simp only [Bool.not_true, Bool.false_or, Bool.and_eq_true, decide_eq_true_eq] at h
          simp only [if_true]
          rw [if_neg (by omega)]
          obtain ⟨l, hl, h2⟩ := (gd_tok r false).1 h.2
          exact ⟨_, by rw [hl]; rfl, low_cons h.1 h2⟩
theorem gd_app : ∀ (xs ys : List Int) (q : Bool), gd q xs = true → gd false ys = true → gd q (xs ++ ys) = true
  | [], ys, q, h, hy => by cases q <;> simp [gd] at h; exact hy
  | c :: r, ys, q, h, hy => by
    rw [List.cons_append]
    rw [gd] at h ⊢
    split at h
    · rename_i hc
      rw [if_pos hc]; exact gd_app r ys _ h hy
    · rename_i hc
      rw [if_neg hc]
      rw [Bool.and_eq_true] at h ⊢
      exact ⟨h.1, gd_app r ys _ h.2 hy⟩
theorem gd_flat {α : Type} (f : α → List Int) : ∀ xs : List α, (∀ x ∈ xs, gd false (f x) = true) → gd false (xs.flatMap f) = true
  | [], _ => rfl
  | x :: xs, h => by
    rw [List.flatMap_cons]
    exact gd_app _ _ _ (h x (by simp)) (gd_flat f xs fun y hy => h y (by simp [hy]))

/-- signs of a number alone -/
def isNum (l : List Int) : Bool := l.all fun c => c = 35 ∨ c = 48 ∨ c = 44 ∨ c = 46
theorem kind_num {c : Int} (h : c = 35 ∨ c = 48 ∨ c = 44 ∨ c = 46) : kindL c = 4 := by
  rcases h with rfl | rfl | rfl | rfl <;> decide
theorem tok_num : ∀ (xs : List Int), isNum xs = true → tokS false false xs = some (xs.map fun c => (4, encB c))
  | [], _ => rfl
  | c :: r, h => by
    unfold isNum at h
    rw [List.all_cons, Bool.and_eq_true, decide_eq_true_eq] at h
    have hk := kind_num h.1
    have h39 : c ≠ 39 := by omega
    rw [tokS, if_neg h39, hk]
    simp only [Bool.false_eq_true, if_false]
    rw [if_neg (by decide), tok_num r h.2]; rfl

/-- ahead: literals and places; a number; behind: literals and places -/
theorem any_low {l : List Pc} (h : low l) (n : Int) (hn : 4 ≤ n) : l.any (isK n) = false := by
  rw [List.any_eq_false]; intro p hp
  have := h p hp
  simp [isK]; omega
theorem tw_app {α : Type} (f : α → Bool) (l m : List α) (h : l.all f = true) (hm : ∀ x r, m = x :: r → f x = false) : (l ++ m).takeWhile f = l := by
  induction l with
  | nil =>
    cases m with
    | nil => rfl
    | cons x r => simp [hm x r rfl]
  | cons x l ih =>
    rw [List.all_cons, Bool.and_eq_true] at h
    rw [List.cons_append, List.takeWhile_cons, h.1, ih h.2]; rfl
theorem half_of (P N S : List Pc) (hP : low P) (hN : N.all (isK 4) = true) (hN0 : N ≠ []) (hS : low S) :
    halfF (P ++ N ++ S) = (numP (textOf N)).map fun r => (joinF P, joinF S, r.1, r.2) := by
  have h0 : 0 < N.length := List.length_pos_iff.2 hN0
  have hi : idxF (isK 4) (P ++ N ++ S) = P.length := by
    refine idxF_at _ _ _ (by simp; omega) ?_ ?_
    · rw [List.append_assoc, List.take_left']
      · exact any_low hP 4 (by decide)
      · rfl
    · have e : (P ++ N ++ S)[P.length]'(by simp; omega) = N[0] := by
        simp [List.getElem_append, h0]
      rw [e]
      exact List.all_eq_true.1 hN _ (List.getElem_mem h0)
  have hf : fromN (P ++ N ++ S) = P.length := by unfold fromN; rw [hi]; rfl
  have hd : (P ++ N ++ S).drop P.length = N ++ S := by rw [List.append_assoc, List.drop_left']; rfl
  have hr : runOf (P ++ N ++ S) = N := by
    unfold runOf; rw [hf, hd]
    refine tw_app _ _ _ hN ?_
    intro x r e
    have := hS x (by rw [e]; simp)
    simp [isK]; omega
  have ht : toN (P ++ N ++ S) = (P ++ N).length := by unfold toN; rw [hf, hr]; simp
  unfold halfF
  rw [hi, if_neg (by omega), ht, List.drop_left' rfl, if_neg (by rw [any_low hS 4 (by decide)]; decide), hr, hf]
  congr 1
  rw [List.append_assoc, List.take_left' rfl]
theorem joinStep_cons (x : Pc) (hx : x.1 ≠ 0) (acc : List Pc) (p : Pc) : joinStep (x :: acc) p = x :: joinStep acc p := by
  by_cases h : p.1 = 0
  · cases acc with
    | nil => rw [joinStep_nil h, joinStep_new h (q := x) (by simp) hx]; rfl
    | cons y acc =>
      have hl : (x :: y :: acc).getLast? = (y :: acc).getLast? := by simp [List.getLast?_cons_cons]
      cases hq : (y :: acc).getLast? with
      | none => simp at hq
      | some q =>
        by_cases h2 : q.1 = 0
        · rw [joinStep_more h hq h2, joinStep_more h (hl.trans hq) h2]; rfl
        · rw [joinStep_new h hq h2, joinStep_new h (hl.trans hq) h2]; rfl
  · rw [joinStep_place h, joinStep_place h]; rfl
theorem join_cons (x : Pc) (hx : x.1 ≠ 0) : ∀ (l acc : List Pc), l.foldl joinStep (x :: acc) = x :: l.foldl joinStep acc
  | [], acc => rfl
  | p :: l, acc => by rw [List.foldl_cons, List.foldl_cons, joinStep_cons x hx, join_cons x hx l]
theorem joinF_place (x : Pc) (hx : x.1 ≠ 0) (l : List Pc) : joinF (x :: l) = (x.1, []) :: joinF l := by
  unfold joinF
  rw [List.foldl_cons, joinStep_place hx, List.nil_append, join_cons (x.1, []) hx]

/-- a text of one half -/
theorem parse_one (P N S : List Pc) (hP : low P) (hN : N.all (isK 4) = true) (hN0 : N ≠ []) (hS : low S) (n : Nums) (hn : numP (textOf N) = some (n, true)) :
    parseT (P ++ N ++ S) = .ok ⟨joinF P, joinF S, (3, []) :: joinF P, joinF S, n⟩ := by
  have h5 : (P ++ N ++ S).any (isK 5) = false := by
    rw [List.any_append, List.any_append, any_low hP 5 (by decide), any_low hS 5 (by decide)]
    have : N.any (isK 5) = false := by
      rw [List.any_eq_false]; intro p hp
      have := List.all_eq_true.1 hN p hp
      simp [isK] at this ⊢; omega
    rw [this]; rfl
  have hh := half_of P N S hP hN hN0 hS
  rw [hn] at hh
  unfold parseT
  rw [idxF_none _ _ h5, if_neg (by decide), halves_ok hh hh]; rfl
/-- a text of two -/
theorem parse_two (P N S P' N' S' : List Pc) (c : Pc) (hc : c.1 = 5) (hP : low P) (hN : N.all (isK 4) = true) (hN0 : N ≠ []) (hS : low S) (n : Nums) (hn : numP (textOf N) = some (n, true))
    (hP' : low P') (hN' : N'.all (isK 4) = true) (hN0' : N' ≠ []) (hS' : low S') (n' : Nums) (hn' : numP (textOf N') = some (n', true)) :
    parseT ((P ++ N ++ S) ++ c :: (P' ++ N' ++ S')) = .ok ⟨joinF P, joinF S, joinF P', joinF S', n⟩ := by
  have g : ∀ (P N S : List Pc), low P → N.all (isK 4) = true → low S → (P ++ N ++ S).any (isK 5) = false := by
    intro P N S hP hN hS
    rw [List.any_append, List.any_append, any_low hP 5 (by decide), any_low hS 5 (by decide)]
    have : N.any (isK 5) = false := by
      rw [List.any_eq_false]; intro p hp
      have := List.all_eq_true.1 hN p hp
      simp [isK] at this ⊢; omega
    rw [this]; rfl
  have h1 := g P N S hP hN hS
  have h2 := g P' N' S' hP' hN' hS'
  have hh := half_of P N S hP hN hN0 hS
  have hh' := half_of P' N' S' hP' hN' hN0' hS'
  rw [hn] at hh
  rw [hn'] at hh'
  generalize P ++ N ++ S = L at *
  generalize P' ++ N' ++ S' = M at *
  have hi : idxF (isK 5) (L ++ c :: M) = L.length := by
    refine idxF_at _ _ _ (by simp) ?_ ?_
    · rw [List.take_left' rfl]; exact h1
    · simp [isK, hc]
  have hc1 : cntK 5 (L ++ c :: M) = 1 := by
    unfold cntK
    rw [List.countP_append, List.countP_cons, List.countP_eq_zero.2 (by simpa [List.any_eq_false] using h1), List.countP_eq_zero.2 (by simpa [List.any_eq_false] using h2)]
    simp [isK, hc]
  unfold parseT
  rw [hi, if_pos (by omega), if_pos hc1, Int.toNat_natCast, List.take_left' rfl]
  have e : (L ++ c :: M).drop (L.length + 1) = M := by
    rw [← List.drop_drop, List.drop_left' rfl]; rfl
  rw [e, halves_ok hh hh']; rfl
end Go.Proofs.YtdkjkbbibdppoaaGreatDoor.Pat

/- Patterns of numbers: a literal's text as it is printed: the closure flush over two strings.Builders. -/
namespace Go.Proofs.YtdkjkbbibdppoaaGreatDoor.Pat
open Go.RowKit Utf All Small Strs Build
set_option linter.unusedVariables false
set_option linter.unusedSimpArgs false

def dblB (l : List UInt8) : List UInt8 := l.flatMap fun b => if b = 39 then [39, 39] else [b]
/-- a run of signs that mean something, as it is printed -/
def escRun (l : List UInt8) : List UInt8 := if l.any (· != 39) then 39 :: (dblB l ++ [39]) else dblB l
theorem dblB_len (l : List UInt8) : l.length ≤ (dblB l).length ∧ (dblB l).length ≤ 2 * l.length := by
  induction l with
  | nil => simp [dblB]
  | cons b l ih =>
    have e : dblB (b :: l) = (if b = 39 then [39, 39] else [b]) ++ dblB l := rfl
    rw [e, List.length_append, List.length_cons]
    split <;> simp <;> omega
theorem escRun_len (l : List UInt8) : (escRun l).length ≤ 2 * l.length + 2 := by
  have := dblB_len l
  unfold escRun; split <;> simp <;> omega
theorem repK_ne (b c : UInt8) (new l : List UInt8) (k : Nat) (h : b ≠ c) : Lib.replaceK [c] new k (b :: l) = b :: Lib.replaceK [c] new k l := by
  cases k with
  | zero => rfl
  | succ k =>
    have hp : ([c].isPrefixOf (b :: l)) = false := by simp [List.isPrefixOf]; exact fun e => absurd e.symm h
    have hi : Lib.index (b :: l) [c] = if Lib.index l [c] == -1 then -1 else Lib.index l [c] + 1 := by rw [Lib.index, hp]; rfl
    by_cases hm : Lib.index l [c] == -1
    · rw [if_pos hm] at hi
      rw [Lib.replaceK, Lib.replaceK, if_pos hm, hi]; rfl
    · rw [if_neg hm] at hi
      have hge : -1 ≤ Lib.index l [c] := by rw [Lib.index_one]; exact Lib.indexByte_ge _ _
      have hne : Lib.index l [c] ≠ -1 := by simpa using hm
      have h2 : ¬ (Lib.index l [c] + 1 == -1) = true := by simp; omega
      rw [Lib.replaceK, hi, if_neg h2, Lib.replaceK, if_neg hm]
      have e : (Lib.index l [c] + 1).toNat = (Lib.index l [c]).toNat + 1 := by omega
      rw [e]
      simp
theorem repK_dbl (l : List UInt8) : Lib.replaceK [39] [39, 39] (l.count 39) l = dblB l := by
  induction l with
  | nil => rfl
  | cons b l ih =>
    by_cases h : b = 39
    · subst h
      have hi : Lib.index (39 :: l) [39] = 0 := by rw [Lib.index_one, Lib.indexByte]; simp
      rw [List.count_cons_self, Lib.replaceK, hi]
      simp [ih, dblB]
    · rw [List.count_cons_of_ne h, repK_ne b 39 _ l _ h, ih]
      simp [dblB, h]
theorem repAll (l : List UInt8) : Lib.replaceAll l [39] [39, 39] = dblB l := by
  unfold Lib.replaceAll Lib.replace
  rw [if_neg (by decide)]
  unfold Lib.replaceNum
  rw [if_pos (.inl (by decide)), Lib.count_one, repK_dbl]
theorem dw_nil {α : Type} (p : α → Bool) (l : List α) : l.dropWhile p = [] ↔ ∀ x ∈ l, p x = true := by
  induction l with
  | nil => simp
  | cons b l ih =>
    rw [List.dropWhile_cons]
    split
    · rename_i h; rw [ih]; simp [h]
    · rename_i h; simp [h]
theorem trimB_nil (x : List UInt8) (c : UInt8) : (Lib.trimB x c = []) ↔ x.any (· != c) = false := by
  unfold Lib.trimB Lib.trimLeftB Lib.trimRightB
  constructor
  · intro h
    rw [List.any_eq_false]
    intro b hb hne
    have h1 : ∀ y ∈ (x.reverse.dropWhile (· == c)).reverse, (y == c) = true := (dw_nil _ _).1 h
    cases hd : x.reverse.dropWhile (· == c) with
    | nil =>
      have := (dw_nil _ _).1 hd b (by simpa using hb)
      simp_all
    | cons z r =>
      have hz : ¬ (z == c) = true := by
        have := List.head?_dropWhile_not (p := (· == c)) x.reverse
        rw [hd] at this
        simpa using this
      exact hz (h1 z (by rw [hd]; simp))
  · intro h
    rw [List.any_eq_false] at h
    have h2 : x.reverse.dropWhile (· == c) = [] := (dw_nil _ _).2 fun y hy => by
      have := h y (by simpa using hy)
      simpa using this
    rw [h2]; rfl
theorem dbl_any (l : List UInt8) : (dblB l).any (· != 39) = l.any (· != 39) := by
  induction l with
  | nil => rfl
  | cons b l ih =>
    have e : dblB (b :: l) = (if b = 39 then [39, 39] else [b]) ++ dblB l := rfl
    rw [e, List.any_append, ih, List.any_cons]
    split
    · rename_i h; subst h; rfl
    · simp
theorem countB_le (l : List UInt8) : Lib.countB ⟨l.toArray⟩ ⟨#[39]⟩ ≤ l.length := by
  have : Lib.countB ⟨l.toArray⟩ ⟨#[39]⟩ = l.count 39 := Lib.count_one 39 _
  rw [this]; exact List.count_le_length

theorem replace_q (l : List UInt8) (w : World) (HM : ∃ m, w.cell? ⟨2, 0, none⟩ = some (.int .i64 m)) (hl : l.length ≤ 1000000000) :
    Calls Tryz.prog 182 #[.string ⟨l.toArray⟩, .string ⟨#[39]⟩, .string ⟨#[39, 39]⟩] w fun e w' => e = .returned (.string ⟨(dblB l).toArray⟩) ∧ Ext w w' := by
  obtain ⟨m, hm⟩ := HM
  have hsz : (⟨l.toArray⟩ : ByteArray).size = l.length := rfl
  have h2 : (⟨#[39, 39]⟩ : ByteArray).size = 2 := rfl
  have h1 : (⟨#[39]⟩ : ByteArray).size = 1 := rfl
  have hc := countB_le l
  refine (Tryz.strings_ReplaceAll _ _ _ m w (by rw [hsz]; omega) hm (by rw [h1]; omega) (by rw [hsz, h2]; omega)).mono ?_
  rintro e w' ⟨rfl, h⟩
  refine ⟨?_, h⟩
  show Ending.returned (.string ⟨(Lib.replaceAll l [39] [39, 39]).toArray⟩) = _
  rw [repAll]
theorem trim_q (l : List UInt8) (w : World) (hl : l.length ≤ 10000000000) :
    Calls Tryz.prog 183 #[.string ⟨l.toArray⟩, .string ⟨#[39]⟩] w fun e w' => e = .returned (.string ⟨(Lib.trimB l 39).toArray⟩) ∧ Ext w w' := by
  have hsz : (⟨l.toArray⟩ : ByteArray).size = l.length := rfl
  refine (Tryz.strings_Trim_one ⟨l.toArray⟩ 39 (by decide) w (by rw [hsz]; omega)).mono ?_
  rintro e w' ⟨rfl, h⟩
  refine ⟨rfl, ?_⟩
  rcases h with rfl | rfl
  · exact Ext.refl _
  · exact Ext.drew_ (Ext.refl _)

abbrev isBp (b : Nat) (p : Value) : Prop := p = .pointer none ∨ p = .pointer (some ⟨b, 0, none⟩)
/-- one part behind the other, seen from the first world -/
theorem ButS.on {S S' : Nat → Prop} {w1 w w' : World} (h : ButS S w1 w) (k : ButS S' w w') (hs : ∀ k, k < w1.heap.size → S' k → S k) : ButS S w1 w' :=
  ⟨k.os.trans h.os, k.tape.trans h.tape, k.output.trans h.output, Nat.le_trans h.size k.size, fun i hi hn => (k.block i (Nat.lt_of_lt_of_le hi h.size) (fun e => hn (hs i hi e))).trans (h.block i hi hn)⟩
abbrev Two (b : Nat) : Nat → Prop := fun k => k = b ∨ k = b + 1
/-- both builders of escaped (blocks b and b + 1; w1: the world behind which they are written): what is printed, and the run -/
structure EscR (b : Nat) (w1 w : World) (out run : List UInt8) : Prop where
  ex : ∃ p v q u base, w.heap[b]? = some (.cells #[p, v] 214 (0, 0)) ∧ isBp b p ∧ w.ownsRow w1.heap.size 5 1 v out.length (Lib.byteCells out) ∧
    w.heap[b + 1]? = some (.cells #[q, u] 214 (0, 0)) ∧ isBp (b + 1) q ∧ w.ownsRow base 5 1 u run.length (Lib.byteCells run) ∧
    (∀ k, v.ownBlock = some k → k < base) ∧ w1.heap.size ≤ base ∧ base ≤ w.heap.size ∧ (run = [] → u = .slice none 0 0)
  lt : b + 1 < w1.heap.size
  but : ButS (Two b) w1 w
theorem strCells_l (l : List UInt8) : Lib.strCells ⟨l.toArray⟩ = Lib.byteCells l := Lib.strCells_eq _
theorem cells_app (l m : List UInt8) : Lib.byteCells l ++ Lib.byteCells m = Lib.byteCells (l ++ m) := (Lib.byteCells_append l m).symm
theorem write_run (b : Nat) (w1 w : World) (out run s : List UInt8) (h : EscR b w1 w out run) (hs : s ≠ []) (hl : run.length + s.length ≤ 1000000000000) :
    Calls Tryz.prog 176 #[.pointer (some ⟨b + 1, 0, none⟩), .string ⟨s.toArray⟩] w fun e w' => e = .returned (.tuple #[.int .i64 s.length, .nilIface]) ∧ EscR b w1 w' out (run ++ s) := by
  obtain ⟨⟨p, v, q, u, base, hb, hp, hv, hr, hq, hu, hlt, hb2, hbw, hn⟩, hl1, hx⟩ := h
  have hsz : (⟨s.toArray⟩ : ByteArray).size = s.length := rfl
  have hne : v.ownBlock ≠ some (b + 1) := Lib.ownBlock_ne hv hr (by decide)
  rw [show run.length = (Lib.byteCells run).length by simp [Lib.byteCells]] at hu
  refine (write_two (b + 1) base q u (Lib.byteCells run) ⟨s.toArray⟩ w hr hq hu (by simp [Lib.byteCells, hsz]; omega) hbw).mono ?_
  rintro e w' ⟨rfl, u', h1, h2, h3, h4⟩
  refine ⟨by rw [hsz], ⟨p, v, _, u', base, ?_, hp, ?_, h1, .inr rfl, ?_, hlt, hb2, Nat.le_trans hbw h4.size, ?_⟩, hl1, ?_⟩
  · rw [h4.block _ (heap_lt hb) (by
      rintro (e | e)
      · omega
      · have := (hu.lt _ e).1; omega)]
    exact hb
  · refine own_move hv fun k hk => h4.block k (hv.lt k hk).2 ?_
    rintro (e | e)
    · exact hne (by rw [hk, e])
    · have := (hu.lt _ e).1; have := hlt k hk; omega
  · rw [strCells_l, cells_app] at h2
    simpa [Lib.byteCells] using h2
  · intro e; simp at e; exact absurd e.2 hs
  · exact ButS.on hx h4 (by
      rintro k hk (e | e)
      · exact .inr e
      · have := (hu.lt _ e).1; omega)
theorem write_out (b : Nat) (w1 w : World) (out s : List UInt8) (h : EscR b w1 w out []) (hl : out.length + s.length ≤ 1000000000000) :
    Calls Tryz.prog 176 #[.pointer (some ⟨b, 0, none⟩), .string ⟨s.toArray⟩] w fun e w' => e = .returned (.tuple #[.int .i64 s.length, .nilIface]) ∧ EscR b w1 w' (out ++ s) [] := by
  obtain ⟨⟨p, v, q, u, base, hb, hp, hv, hr, hq, hu, hlt, hb2, hbw, hn⟩, hl1, hx⟩ := h
  obtain rfl := hn rfl
  have hsz : (⟨s.toArray⟩ : ByteArray).size = s.length := rfl
  have hne : v.ownBlock ≠ some (b + 1) := Lib.ownBlock_ne hv hr (by decide)
  rw [show out.length = (Lib.byteCells out).length by simp [Lib.byteCells]] at hv
  refine (write_two b w1.heap.size p v (Lib.byteCells out) ⟨s.toArray⟩ w hb hp hv (by simp [Lib.byteCells, hsz]; omega) hx.size).mono ?_
  rintro e w' ⟨rfl, v', h1, h2, h3, h4⟩
  refine ⟨by rw [hsz], ⟨_, v', q, _, w'.heap.size, h1, .inr rfl, ?_, ?_, hq, World.ownsRow_nil _ _ _ _, fun k hk => (h2.lt k hk).2, Nat.le_trans hx.size h4.size, Nat.le_refl _, fun _ => rfl⟩, hl1, ?_⟩
  · rw [strCells_l, cells_app] at h2
    simpa [Lib.byteCells] using h2
  · rw [h4.block _ (heap_lt hr) (by
      rintro (e | e)
      · omega
      · exact hne e)]
    exact hr
  · exact ButS.on hx h4 (by
      rintro k hk (e | e)
      · exact .inl e
      · have := (hv.lt _ e).1; omega)
/-- a builder in the midst of flush: what is printed stands, the run's is of whatever content -/
def Mid (b : Nat) (w1 w : World) (out : List UInt8) : Prop := ∃ p v q u, w.heap[b]? = some (.cells #[p, v] 214 (0, 0)) ∧ isBp b p ∧ w.ownsRow w1.heap.size 5 1 v out.length (Lib.byteCells out) ∧
      w.heap[b + 1]? = some (.cells #[q, u] 214 (0, 0)) ∧ b + 1 < w1.heap.size ∧ ButS (Two b) w1 w
theorem Mid.ext {b : Nat} {w1 w w' : World} {out : List UInt8} (h : Mid b w1 w out) (hx : Ext w w') : Mid b w1 w' out := by
  obtain ⟨p, v, q, u, hb, hp, hv, hr, hl, hbut⟩ := h
  exact ⟨p, v, q, u, (hx.block _ (heap_lt hb)).trans hb, hp, own_move hv fun k hk => hx.block k (hv.lt k hk).2, (hx.block _ (heap_lt hr)).trans hr, hl, ButS.on hbut (ButS.of_ext (S := fun _ => False) hx) fun _ _ e => e.elim⟩
theorem str_run (b : Nat) (w1 w : World) (out run : List UInt8) (h : EscR b w1 w out run) :
    Calls Tryz.prog 177 #[.pointer (some ⟨b + 1, 0, none⟩)] w fun e w' => e = .returned (.string ⟨run.toArray⟩) ∧ Mid b w1 w' out := by
  obtain ⟨⟨p, v, q, u, base, hb, hp, hv, hr, hq, hu, hlt, hb2, hbw, hn⟩, hl1, hx⟩ := h
  refine (str_two (b + 1) base q u run w hr hu hn).mono ?_
  rintro e w' ⟨rfl, h4⟩
  have hner : u.ownBlock ≠ some (b + 1) := Lib.ownBlock_ne hu hr (by decide)
  refine ⟨rfl, p, v, q, u, ?_, hp, ?_, ?_, hl1, ?_⟩
  · rw [h4.block _ (heap_lt hb) (fun e => by have := (hu.lt _ e).1; omega)]; exact hb
  · exact own_move hv fun k hk => h4.block k (hv.lt k hk).2 fun e => by have := (hu.lt _ e).1; have := hlt k hk; omega
  · rw [h4.block _ (heap_lt hr) hner]; exact hr
  · exact ButS.on hx h4 (fun k hk e => by have := (hu.lt _ e).1; omega)
theorem reset_run (b : Nat) (w1 w : World) (out : List UInt8) (h : Mid b w1 w out) :
    Calls Tryz.prog 184 #[.pointer (some ⟨b + 1, 0, none⟩)] w fun e w' => e = .returned (.tuple #[]) ∧ EscR b w1 w' out [] := by
  obtain ⟨p, v, q, u, hb, hp, hv, hr, hl1, hx⟩ := h
  have hne : v.ownBlock ≠ some (b + 1) := Lib.ownBlock_ne hv hr (by decide)
  refine (reset_two (b + 1) q u w hr).mono ?_
  rintro e w' ⟨rfl, h1, h4⟩
  have hv' : w'.ownsRow w1.heap.size 5 1 v out.length (Lib.byteCells out) := own_move hv fun k hk => h4.block k (hv.lt k hk).2 fun e => hne (by rw [hk, e])
  refine ⟨rfl, ⟨p, v, _, _, w'.heap.size, ?_, hp, hv', h1, .inl rfl, World.ownsRow_nil _ _ _ _, fun k hk => (hv'.lt k hk).2, Nat.le_trans hx.size h4.size, Nat.le_refl _, fun _ => rfl⟩, hl1, ?_⟩
  · rw [h4.block _ (heap_lt hb) (by omega)]; exact hb
  · exact ButS.on hx h4 (fun k hk e => .inr e)
theorem write_b (b : Nat) (w1 w : World) (out s : List UInt8) (h : Mid b w1 w out) (hl : out.length + s.length ≤ 1000000000000) :
    Calls Tryz.prog 176 #[.pointer (some ⟨b, 0, none⟩), .string ⟨s.toArray⟩] w fun e w' => e = .returned (.tuple #[.int .i64 s.length, .nilIface]) ∧ Mid b w1 w' (out ++ s) := by
  obtain ⟨p, v, q, u, hb, hp, hv, hr, hl1, hx⟩ := h
  have hsz : (⟨s.toArray⟩ : ByteArray).size = s.length := rfl
  have hne : v.ownBlock ≠ some (b + 1) := Lib.ownBlock_ne hv hr (by decide)
  rw [show out.length = (Lib.byteCells out).length by simp [Lib.byteCells]] at hv
  refine (write_two b w1.heap.size p v (Lib.byteCells out) ⟨s.toArray⟩ w hb hp hv (by simp [Lib.byteCells, hsz]; omega) hx.size).mono ?_
  rintro e w' ⟨rfl, v', h1, h2, h3, h4⟩
  refine ⟨by rw [hsz], _, v', q, u, h1, .inr rfl, ?_, ?_, hl1, ?_⟩
  · rw [strCells_l, cells_app] at h2
    simpa [Lib.byteCells] using h2
  · rw [h4.block _ (heap_lt hr) (by
      rintro (e | e)
      · omega
      · exact hne e)]
    exact hr
  · exact ButS.on hx h4 (by
      rintro k hk (e | e)
      · exact .inl e
      · have := (hv.lt _ e).1; omega)

theorem esc_none {l : List UInt8} (h : l.any (· != 39) = false) : Lib.trimB (dblB l) 39 = [] ∧ escRun l = dblB l := by
  refine ⟨(trimB_nil _ _).2 (by rw [dbl_any]; exact h), ?_⟩
  unfold escRun; rw [h]; rfl
theorem esc_some {l : List UInt8} (h : l.any (· != 39) = true) : Lib.trimB (dblB l) 39 ≠ [] ∧ escRun l = 39 :: (dblB l ++ [39]) := by
  refine ⟨fun e => ?_, ?_⟩
  · have := (trimB_nil _ _).1 e
    rw [dbl_any, h] at this; cases this
  · unfold escRun; rw [h]; rfl
theorem quoted_mk (l : List UInt8) : (⟨#[39]⟩ : ByteArray) ++ ⟨l.toArray⟩ ++ ⟨#[39]⟩ = ⟨(39 :: (l ++ [39])).toArray⟩ := by
  refine bytes_ext ?_
  simp
theorem cell_of_mid {b : Nat} {w1 w : World} {out : List UInt8} (h : Mid b w1 w out) (h0 : 2 < b) (HM : ∃ m, w1.cell? ⟨2, 0, none⟩ = some (.int .i64 m)) : ∃ m, w.cell? ⟨2, 0, none⟩ = some (.int .i64 m) := by
  obtain ⟨p, v, q, u, hb, hp, hv, hr, hl1, hx⟩ := h
  obtain ⟨m, hm⟩ := HM
  exact ⟨m, (World.cell?_of_block (a := ⟨2, 0, none⟩) (hx.block 2 (by omega) (by rintro (e | e) <;> omega))).trans hm⟩
set_option maxHeartbeats 2000000 in
set_option maxRecDepth 100000 in
theorem flush_ (b : Nat) (w1 w : World) (out run : List UInt8) (h : EscR b w1 w out run) (h0 : 2 < b) (HM : ∃ m, w1.cell? ⟨2, 0, none⟩ = some (.int .i64 m)) (ho : out.length ≤ 100000000000) (hr : run.length ≤ 1000000000) :
    Calls Tryz.prog 181 #[.pointer (some ⟨b + 1, 0, none⟩), .pointer (some ⟨b, 0, none⟩)] w fun e w' => e = .returned (.tuple #[]) ∧ EscR b w1 w' (out ++ escRun run) [] := by
  have hd := dblB_len run
  have hd2 := escRun_len run
  cases ha : run.any (· != 39)
  · obtain ⟨e1, e2⟩ := esc_none ha
    have E1 := Lib.hid e1
    have E2 := Lib.hid e2
    clear e1 e2 ha
    go_enter Tryz.func181, Tryz.ntmps181
    go_wp2_with fail
    refine (str_run b w1 w out run h).mono ?_; rintro e w2 ⟨rfl, h2⟩
    have HM2 := cell_of_mid h2 h0 HM
    go_wp2_with fail
    refine (replace_q run w2 HM2 hr).mono ?_; rintro e w3 ⟨rfl, x3⟩
    go_wp2_with fail
    refine (trim_q (dblB run) w3 (by omega)).mono ?_; rintro e w4 ⟨rfl, x4⟩; rw [E1.out]
    go_wp2_with fail
    refine (write_b b w1 w4 out (dblB run) ((h2.ext x3).ext x4) (by omega)).mono ?_; rintro e w5 ⟨rfl, h5⟩
    go_wp2_with fail
    refine (reset_run b w1 w5 _ h5).mono ?_; rintro e w6 ⟨rfl, h6⟩
    go_wp2
    go_end0
    exact ⟨rfl, by rw [E2.out]; exact h6⟩
  · obtain ⟨e1, e2⟩ := esc_some ha
    obtain ⟨x, r, e3⟩ : ∃ x r, Lib.trimB (dblB run) 39 = x :: r := by
      cases hh : Lib.trimB (dblB run) 39 with
      | nil => exact absurd hh e1
      | cons x r => exact ⟨x, r, rfl⟩
    have E1 := Lib.hid e3
    have E2 := Lib.hid e2
    clear e1 e2 e3 ha
    go_enter Tryz.func181, Tryz.ntmps181
    go_wp2_with fail
    refine (str_run b w1 w out run h).mono ?_; rintro e w2 ⟨rfl, h2⟩
    have HM2 := cell_of_mid h2 h0 HM
    go_wp2_with fail
    refine (replace_q run w2 HM2 hr).mono ?_; rintro e w3 ⟨rfl, x3⟩
    go_wp2_with fail
    refine (trim_q (dblB run) w3 (by omega)).mono ?_; rintro e w4 ⟨rfl, x4⟩; rw [E1.out]
    go_wp2_with fail
    rw [quoted_mk]
    refine (write_b b w1 w4 out (39 :: (dblB run ++ [39])) ((h2.ext x3).ext x4) (by simp; omega)).mono ?_; rintro e w5 ⟨rfl, h5⟩
    go_wp2_with fail
    refine (reset_run b w1 w5 _ h5).mono ?_; rintro e w6 ⟨rfl, h6⟩
    go_wp2
    go_end0
    exact ⟨rfl, by rw [E2.out]; exact h6⟩
end Go.Proofs.YtdkjkbbibdppoaaGreatDoor.Pat

/- Patterns of numbers: a literal's text as it is printed: the walk of escaped. -/
namespace Go.Proofs.YtdkjkbbibdppoaaGreatDoor.Pat
open Go.RowKit Utf All Small Strs Build EncC
set_option linter.unusedVariables false
set_option linter.unusedSimpArgs false

/-- does a character mean something? -/
def special (c : Int) : Bool := decide (c = 39) || decide (kindL c ≠ 0)
def escF : List Int → List UInt8 → List UInt8 → List UInt8
  | [], out, run => out ++ escRun run
  | c :: r, out, run => if special c then escF r out (run ++ encB c) else escF r (out ++ escRun run ++ encB c) []
def escL (s : List UInt8) : List UInt8 := escF (charsL s) [] []
theorem escR_start (w v : World) (hx : Ext ((w.alloc (.cells #[.pointer none, .slice none 0 0] 214)).alloc (.cells #[.pointer none, .slice none 0 0] 214)) v) :
    EscR w.heap.size v v [] [] := by
  have h1 : v.heap[w.heap.size]? = some (.cells #[.pointer none, .slice none 0 0] 214 (0, 0)) := by
    rw [hx.block _ (by simp; omega), Lib.alloc_old _ _ _ (by simp)]; exact heap_alloc_new w _
  have h2 : v.heap[w.heap.size + 1]? = some (.cells #[.pointer none, .slice none 0 0] 214 (0, 0)) := by
    rw [hx.block _ (by simp)]
    have := heap_alloc_new (w.alloc (.cells #[.pointer none, .slice none 0 0] 214)) (.cells #[.pointer none, .slice none 0 0] 214)
    rwa [World.size_alloc] at this
  have h3 := hx.size
  simp at h3
  exact ⟨⟨_, _, _, _, v.heap.size, h1, .inl rfl, World.ownsRow_nil _ _ _ _, h2, .inl rfl, World.ownsRow_nil _ _ _ _, fun k hk => by simp [Value.ownBlock] at hk, Nat.le_refl _, Nat.le_refl _, fun _ => rfl⟩, by omega, ButS.refl _ _⟩
theorem Row.but {b : Nat} {v w : World} {A : Option Addr} {cs : List Value} (h : Row v A cs) (hb : ButS (Two b) v w) (hf : ∀ g off, A = some ⟨g, off, none⟩ → cs ≠ [] → g ≠ b ∧ g ≠ b + 1) : Row w A cs := by
  rcases h with h | ⟨g, off, rfl, h⟩
  · exact .inl h
  · refine .inr ⟨g, off, rfl, fun j u hj => ?_⟩
    have hg := block_lt (h j u hj)
    have := hf g off rfl (by rintro rfl; simp at hj)
    exact (World.cell?_of_block (hb.block g hg (by rintro (e | e) <;> simp_all))).trans (h j u hj)
theorem EscR.ext {b : Nat} {w1 w w' : World} {out run : List UInt8} (h : EscR b w1 w out run) (hx : Ext w w') : EscR b w1 w' out run := by
  obtain ⟨⟨p, v, q, u, base, hb, hp, hv, hr, hq, hu, hlt, hb2, hbw, hn⟩, hl1, hbut⟩ := h
  exact ⟨⟨p, v, q, u, base, (hx.block _ (heap_lt hb)).trans hb, hp, own_move hv fun k hk => hx.block k (hv.lt k hk).2, (hx.block _ (heap_lt hr)).trans hr, hq, own_move hu fun k hk => hx.block k (hu.lt k hk).2, hlt, hb2, Nat.le_trans hbw hx.size, hn⟩, hl1,
    ButS.on hbut (ButS.of_ext (S := fun _ => False) hx) fun _ _ e => e.elim⟩
theorem cell_of_esc {b : Nat} {w1 w : World} {out run : List UInt8} (h : EscR b w1 w out run) (h0 : 2 < b) (hl : b < w1.heap.size) (HM : ∃ m, w1.cell? ⟨2, 0, none⟩ = some (.int .i64 m)) : ∃ m, w.cell? ⟨2, 0, none⟩ = some (.int .i64 m) := by
  obtain ⟨m, hm⟩ := HM
  exact ⟨m, (World.cell?_of_block (a := ⟨2, 0, none⟩) (h.but.block 2 (by omega) (by rintro (e | e) <;> omega))).trans hm⟩
theorem str_out (b : Nat) (w1 w : World) (out run : List UInt8) (h : EscR b w1 w out run) :
    Calls Tryz.prog 177 #[.pointer (some ⟨b, 0, none⟩)] w fun e w' => e = .returned (.string ⟨out.toArray⟩) ∧ Below b w w' := by
  obtain ⟨⟨p, v, q, u, base, hb, hp, hv, hr, hq, hu, hlt, hb2, hbw, hn⟩, hl1, hbut⟩ := h
  have hv' : w.ownsRow b 5 1 v (Lib.byteCells out).length (Lib.byteCells out) := own_base (by simpa [Lib.byteCells] using hv) fun k hk => by have := (hv.lt k hk).1; omega
  have hbl := heap_lt hb
  refine Tryz.Builder_String_any b b out w ?_ (by omega)
  rcases hp with rfl | rfl
  · exact .inl ⟨Nat.le_refl _, v, hb, hv', Lib.ownBlock_ne hv hb (by decide)⟩
  · exact .inr ⟨Nat.le_refl _, v, hb, hv', Lib.ownBlock_ne hv hb (by decide)⟩
theorem row_off {b : Nat} {w : World} {A : Option Addr} {xs : List Int} (h : Row w A (xs.map (Value.int .i64))) (hb : w.heap[b]? = some (.cells #[.pointer none, .slice none 0 0] 214 (0, 0)))
    (hr : w.heap[b + 1]? = some (.cells #[.pointer none, .slice none 0 0] 214 (0, 0))) : ∀ g off, A = some ⟨g, off, none⟩ → xs.map (Value.int .i64) ≠ [] → g ≠ b ∧ g ≠ b + 1 := by
  rintro g off rfl hne
  obtain ⟨x, r, rfl⟩ : ∃ x r, xs = x :: r := by
    cases xs with
    | nil => simp at hne
    | cons x r => exact ⟨x, r, rfl⟩
  obtain ⟨g', off', e1, hc⟩ := row_int h (k := 0) (by simp)
  injection e1 with e1
  injection e1 with e1 e2
  subst e1; subst e2
  refine ⟨?_, ?_⟩
  · rintro rfl
    rw [Lib.cell_of_heap hb] at hc
    match off, hc with
    | 0, hc => simp at hc
    | 1, hc => simp at hc
    | n + 2, hc => simp at hc
  · rintro rfl
    rw [Lib.cell_of_heap hr] at hc
    match off, hc with
    | 0, hc => simp at hc
    | 1, hc => simp at hc
    | n + 2, hc => simp at hc
theorem special_39 : special 39 = true := rfl
theorem escF_spec {c : Int} {r : List Int} {out run : List UInt8} (h : special c = true) : escF (c :: r) out run = escF r out (run ++ encB c) := by rw [escF, if_pos h]
theorem escF_plain {c : Int} {r : List Int} {out run : List UInt8} (h : special c = false) : escF (c :: r) out run = escF r (out ++ escRun run ++ encB c) [] := by rw [escF, if_neg (by simp [h])]
theorem encB_ne {c : Int} (h : mayC c = true) : encB c ≠ [] := fun e => by have := (encB_len h).1; rw [e] at this; simp at this
set_option maxHeartbeats 4000000 in
set_option maxRecDepth 100000 in
theorem escaped_ (s : List UInt8) (w : World) (h0 : 2 < w.heap.size) (HM : ∃ m, w.cell? ⟨2, 0, none⟩ = some (.int .i64 m)) (hs : s.length ≤ 100000000) :
    Calls Tryz.prog 152 #[.string ⟨s.toArray⟩] w fun e w' => e = .returned (.string ⟨(escL s).toArray⟩) ∧ Ext w w' := by
  have hmf : ∀ (fn : Fn) (first cap : Array Value) (w : World), (Instr.makeFunc fn first cap).run Tryz.prog w = .ok (.func fn first cap) w := fun _ _ _ _ => rfl
  have hcl : (charsL s).length ≤ s.length := chars_len ⟨s.toArray⟩
  have hmay := charsL_may s
  have hbd := charsL_bd s
  have HL : Hid (escL s = escF (charsL s) [] []) := Lib.hid rfl
  have ha : Ext w ((w.alloc (.cells #[.pointer none, .slice none 0 0] 214)).alloc (.cells #[.pointer none, .slice none 0 0] 214)) := Ext.alloc_ (Ext.alloc_ (Ext.refl w) _) _
  go_enter Tryz.func152, Tryz.ntmps152
  go_wp2_with fail
  refine (utf_all ⟨s.toArray⟩ _ (by show s.length ≤ _; omega)).mono ?_; rintro e w1 ⟨X, cX, rfl, hrow, hlc, hcm, hx⟩
  have hxw : Ext w w1 := ha.trans hx
  have hst := escR_start w w1 hx
  have hlt1 := hst.lt
  have HM1 : ∃ m, w1.cell? ⟨2, 0, none⟩ = some (.int .i64 m) := by
    obtain ⟨m, hm⟩ := HM
    exact ⟨m, Ext.cell_ hxw hm⟩
  have hof : ∀ g off, X = some ⟨g, off, none⟩ → (charsL s).map (Value.int .i64) ≠ [] → g ≠ w.heap.size ∧ g ≠ w.heap.size + 1 := by
    refine row_off hrow ?_ ?_
    · rw [hx.block _ (by simp; omega), Lib.alloc_old _ _ _ (by simp)]; exact heap_alloc_new w _
    · rw [hx.block _ (by simp)]
      have := heap_alloc_new (w.alloc (.cells #[.pointer none, .slice none 0 0] 214)) (.cells #[.pointer none, .slice none 0 0] 214)
      rwa [World.size_alloc] at this
  have hd0 : (⟨s.toArray⟩ : ByteArray).data.toList = s := rfl
  rw [hd0] at hrow hlc ⊢
  generalize charsL s = xs at *
  have HBD := Lib.hid hbd
  have HMAY := Lib.hid hmay
  have HXW := Lib.hid hxw
  have HCM := Lib.hid hcm
  clear hbd hmay hx ha hxw hcm
  go_wp2
  go_loopw [7, 12] (fun _ i wr => ∃ (k : Nat) (out run : List UInt8), k ≤ xs.length ∧ i = .int .i64 k ∧ EscR w.heap.size w1 wr out run ∧ Hid (escF (xs.drop k) out run = escF xs [] []) ∧ out.length + 2 * run.length ≤ 8 * k) (fun _ i _ => xs.length - (intOf i).toNat)
  case atStart => exact ⟨0, [], [], Nat.zero_le _, rfl, hst, Lib.hid (by simp), by simp⟩
  case round =>
    obtain ⟨k, out, run, hk, rfl, hE, HK, hsz⟩ := hrel
    have hmx := escRun_len run
    by_cases hlt : k < xs.length
    · obtain ⟨bX, oX, rfl, hc⟩ := row_int (Row.but hrow hE.but hof) hlt
      have hb := HBD.out _ (List.getElem_mem hlt)
      have hm := HMAY.out _ (List.getElem_mem hlt)
      have HD : Hid (xs.drop k = xs[k] :: xs.drop (k + 1)) := Lib.hid (List.drop_eq_getElem_cons hlt)
      generalize hv : xs[k] = v at *
      have hel := encB_len hm
      have hen := encB_ne hm
      clear hv hm
      obtain ⟨hb0, hb1⟩ := hb
      by_cases hq : v = 39
      · subst hq
        go_wp2_with fail
        refine (utf_encode 39 _).mono ?_; rintro e w2 ⟨rfl, hx2⟩
        go_wp2_with fail
        refine (write_run w.heap.size w1 w2 out run (encB 39) (hE.ext hx2) hen (by omega)).mono ?_; rintro e w3 ⟨rfl, h3⟩
        go_wp2
        go_roundw
        case rel => exact ⟨k + 1, out, run ++ encB 39, by omega, by go_num, h3, Lib.hid (by rw [← HK.out, HD.out, escF_spec special_39]), by rw [List.length_append]; omega⟩
        case measure => simp [intOf]; omega
      · have hqb : (v == 39) = false := by simpa using hq
        by_cases hz : kindL v = 0
        · have HZ := Lib.hid hz
          have HS : Hid (special v = false) := Lib.hid (by unfold special; rw [hz]; simp [hq])
          clear hz hq
          go_wp2_with fail
          refine (kind_ v _ hb0 hb1).mono ?_; rintro e w2 ⟨rfl, rfl⟩; rw [HZ.out]
          go_wp2_with fail
          refine (flush_ w.heap.size w1 _ out run hE h0 HM1 (by omega) (by omega)).mono ?_; rintro e w3 ⟨rfl, h3⟩
          go_wp2_with fail
          refine (utf_encode v _).mono ?_; rintro e w4 ⟨rfl, hx4⟩
          go_wp2_with fail
          refine (write_out w.heap.size w1 w4 _ (encB v) (h3.ext hx4) (by rw [List.length_append]; omega)).mono ?_; rintro e w5 ⟨rfl, h5⟩
          go_wp2
          go_roundw
          case rel => exact ⟨k + 1, out ++ escRun run ++ encB v, [], by omega, by go_num, h5, Lib.hid (by rw [← HK.out, HD.out, escF_plain HS.out]), by simp only [List.length_append, List.length_nil]; omega⟩
          case measure => simp [intOf]; omega
        · have HZ : Hid ((kindL v == 0) = false) := Lib.hid (by simpa using hz)
          have HS : Hid (special v = true) := Lib.hid (by unfold special; simp [hz])
          clear hq
          go_wp2_with fail
          refine (kind_ v _ hb0 hb1).mono ?_; rintro e w2 ⟨rfl, rfl⟩
          have hz' := HZ.out
          go_wp2_with fail
          refine (utf_encode v _).mono ?_; rintro e w2 ⟨rfl, hx2⟩
          go_wp2_with fail
          refine (write_run w.heap.size w1 w2 out run (encB v) (hE.ext hx2) hen (by omega)).mono ?_; rintro e w3 ⟨rfl, h3⟩
          go_wp2
          go_roundw
          case rel => exact ⟨k + 1, out, run ++ encB v, by omega, by go_num, h3, Lib.hid (by rw [← HK.out, HD.out, escF_spec HS.out]), by rw [List.length_append]; omega⟩
          case measure => simp [intOf]; omega
    · have e : k = xs.length := by omega
      subst e
      rw [List.drop_length] at HK
      have HK2 : Hid (out ++ escRun run = escL s) := Lib.hid (by rw [HL.out, ← HK.out]; rfl)
      go_wp2_with fail
      refine (flush_ w.heap.size w1 _ out run hE h0 HM1 (by omega) (by omega)).mono ?_; rintro e w3 ⟨rfl, h3⟩
      go_wp2_with fail
      refine (str_out w.heap.size w1 w3 _ _ h3).mono ?_; rintro e w4 ⟨rfl, h4⟩
      go_wp2
      go_ret
      exact ⟨by rw [HK2.out]; rfl, Below.trans HXW.out (Below.trans (h3.but.below (by omega) (by rintro k (e | e) <;> omega)) h4)⟩
end Go.Proofs.YtdkjkbbibdppoaaGreatDoor.Pat

/- Patterns of numbers: Print, of patterns without decimals and groups, and with the plain negative half; pieces; whether pieces are the same; Resolve. -/
namespace Go.Proofs.YtdkjkbbibdppoaaGreatDoor.Pat
open Go.RowKit Utf All Small Strs Build EncC
set_option linter.unusedVariables false
set_option linter.unusedSimpArgs false

/-! ### slices.Equal over pieces -/
theorem pcStruct : Tryz.prog.underlying 96 = some (.struct (Tryz.prog.fieldsOf 96)) := by kernel_rfl
theorem pcHeld : Tryz.prog.stoodInHeld 96 = false := by kernel_rfl
theorem pcGuard : Tryz.prog.eqGuardType Tryz.prog.depth 96 = false := by kernel_rfl
theorem neq_pc (x y : Pc) (w : World) : (binOp .neq 96 (.agg #[.int .i64 x.1, .string ⟨x.2.toArray⟩]) (.agg #[.int .i64 y.1, .string ⟨y.2.toArray⟩])).run Tryz.prog w = .ok (.bool (!decide (x = y))) w := by
  have u3 := Tryz.underlying3
  have a3 := Tryz.isAgg3
  have z3 := Tryz.sizeOf3
  have u9 := Tryz.underlying9
  have a9 := Tryz.isAgg9
  have z9 := Tryz.sizeOf9
  obtain ⟨k, t⟩ := x
  obtain ⟨j, u⟩ := y
  rw [run_neq_struct, show (10000 : Nat) = 9999 + 1 from rfl, run_equalIn_agg w 9999 96 _ _ pcStruct pcHeld]
  simp only [Program.fieldsOf, Tryz.underlying96]
  have hb := beq_strL ⟨t.toArray⟩ ⟨u.toArray⟩
  have hd : (⟨t.toArray⟩ : ByteArray).data.toList = t := rfl
  have hd2 : (⟨u.toArray⟩ : ByteArray).data.toList = u := rfl
  rw [hd, hd2] at hb
  go_simp
  by_cases h1 : k = j <;> by_cases h2 : t = u <;> simp [h1, h2, hb]
set_option maxHeartbeats 4000000 in
set_option maxRecDepth 100000 in
theorem equal_ (A B : Option Addr) (c d : Nat) (l m : List Pc) (w : World) (hA : Row w A (pcsV l)) (hB : Row w B (pcsV m)) (hl : l.length ≤ 10000000000) (hm : m.length ≤ 10000000000) :
    Calls Tryz.prog 58 #[.slice A l.length c, .slice B m.length d] w fun e w' => e = .returned (.bool (decide (l = m))) ∧ Ext w w' := by
  by_cases hn : l.length = m.length
  · have HN : Hid (l.length = m.length) := Lib.hid hn
    have hb : (((l.length : Nat) : Int) == ((m.length : Nat) : Int)) = true := by rw [hn]; simp
    clear hn
    go_enter Tryz.func58, Tryz.ntmps58
    go_wp2
    go_loopw [5, 13] (fun _ i wr => ∃ k : Nat, k ≤ l.length ∧ i = .int .i64 k ∧ Ext w wr ∧ Hid (l.take k = m.take k)) (fun _ i _ => l.length - (intOf i).toNat)
    case atStart => exact ⟨0, Nat.zero_le _, rfl, Ext.refl _, Lib.hid (by simp)⟩
    case round =>
      obtain ⟨k, hk, rfl, hx, HK⟩ := hrel
      by_cases hlt : k < l.length
      · have hlt2 : k < m.length := by have := HN.out; omega
        obtain ⟨b1, o1, rfl, hc1, hc2⟩ := row_pc (hA.below hx (Nat.le_refl _)) hlt
        obtain ⟨b2, o2, rfl, hd1, hd2⟩ := row_pc (hB.below hx (Nat.le_refl _)) hlt2
        have HR := Lib.hid (pc_range hc1 hc2)
        have HS := Lib.hid (pc_range hd1 hd2)
        have HX := Lib.hid hx
        have HT : Hid (l.take (k + 1) = l.take k ++ [l[k]]) := Lib.hid (List.take_succ_eq_append_getElem hlt)
        have HT2 : Hid (m.take (k + 1) = m.take k ++ [m[k]]) := Lib.hid (List.take_succ_eq_append_getElem hlt2)
        have HG1 : Hid (l[k]? = some l[k]) := Lib.hid (List.getElem?_eq_getElem hlt)
        have HG2 : Hid (m[k]? = some m[k]) := Lib.hid (List.getElem?_eq_getElem hlt2)
        have hgd : ∀ (x y : Pc) (o1 o2 : Operand) (w : World), (eqGuard .neq 96 o1 o2 (.agg #[.int .i64 x.1, .string ⟨x.2.toArray⟩]) (.agg #[.int .i64 y.1, .string ⟨y.2.toArray⟩])).run Tryz.prog w = .ok () w := fun _ _ _ _ w => run_eqGuard_agg w .neq 96 _ _ _ _ pcGuard
        clear hx
        generalize l[k] = x at *
        generalize m[k] = y at *
        have hnp := neq_pc x y
        by_cases he : x = y
        · have HE := Lib.hid he
          rw [decide_eq_true he] at hnp
          clear he
          go_wp2
          go_region_held3 (fun W => W.cell? ⟨b1, o1 + k * 2, none⟩ = some (.int .i64 x.1) ∧ W.cell? ⟨b1, o1 + k * 2 + 1, none⟩ = some (.string ⟨x.2.toArray⟩) ∧ W.cell? ⟨b2, o2 + k * 2, none⟩ = some (.int .i64 y.1) ∧ W.cell? ⟨b2, o2 + k * 2 + 1, none⟩ = some (.string ⟨y.2.toArray⟩))
            (first | exact ⟨hc1, hc2, hd1, hd2⟩ | assumption) (fail)
          all_goals go_wp2
          all_goals exact ⟨⟨k + 1, by omega, by go_num, Ext.drew_ HX.out, Lib.hid (by rw [HT.out, HT2.out, HK.out, HE.out])⟩, by simp [intOf]; omega⟩
        · have HE : Hid (decide (l = m) = false) := Lib.hid (by
            rw [decide_eq_false_iff_not]
            intro e
            have h1 := HG1.out
            rw [e, HG2.out] at h1
            exact he (Option.some.inj h1).symm)
          rw [decide_eq_false he] at hnp
          clear he
          go_wp2
          go_region_held3 (fun W => W.cell? ⟨b1, o1 + k * 2, none⟩ = some (.int .i64 x.1) ∧ W.cell? ⟨b1, o1 + k * 2 + 1, none⟩ = some (.string ⟨x.2.toArray⟩) ∧ W.cell? ⟨b2, o2 + k * 2, none⟩ = some (.int .i64 y.1) ∧ W.cell? ⟨b2, o2 + k * 2 + 1, none⟩ = some (.string ⟨y.2.toArray⟩))
            (first | exact ⟨hc1, hc2, hd1, hd2⟩ | assumption) (fail)
          all_goals go_wp2
          all_goals go_ret
          all_goals exact ⟨by rw [HE.out]; rfl, Ext.drew_ HX.out⟩
      · have e : k = l.length := by omega
        subst e
        have HE : Hid (decide (l = m) = true) := Lib.hid (by
          rw [decide_eq_true_iff]
          have h1 := HK.out
          rw [List.take_length, HN.out, List.take_length] at h1
          exact h1)
        go_wp2
        go_ret
        exact ⟨by rw [HE.out]; rfl, hx⟩
  · have hb : (((l.length : Nat) : Int) == ((m.length : Nat) : Int)) = false := by simp; omega
    have HE : Hid (decide (l = m) = false) := Lib.hid (by
      rw [decide_eq_false_iff_not]
      rintro rfl
      exact hn rfl)
    clear hn
    go_enter Tryz.func58, Tryz.ntmps58
    go_wp2
    go_ret
    exact ⟨by rw [HE.out]; rfl, Ext.refl _⟩
theorem equal_n (A B : Option Addr) (c d n k : Nat) (l m : List Pc) (w : World) (hn : l.length = n) (hk : m.length = k) (hA : Row w A (pcsV l)) (hB : Row w B (pcsV m)) (hl : l.length ≤ 10000000000) (hm : m.length ≤ 10000000000) :
    Calls Tryz.prog 58 #[.slice A n c, .slice B k d] w fun e w' => e = .returned (.bool (decide (l = m))) ∧ Ext w w' := by
  subst hn; subst hk; exact equal_ A B c d l m w hA hB hl hm

/-! ### pieces, of literals alone -/
def litF (l : List Pc) : List UInt8 := l.flatMap fun p => escL p.2
theorem escF_len : ∀ (xs : List Int) (out run : List UInt8), (∀ x ∈ xs, mayC x = true) → (escF xs out run).length ≤ out.length + 2 * run.length + 2 + 8 * xs.length
  | [], out, run, _ => by have := escRun_len run; simp [escF]; omega
  | c :: r, out, run, h => by
    have hc := encB_len (h c (by simp))
    have hm := escRun_len run
    rw [escF]
    split
    · have := escF_len r out (run ++ encB c) (fun x hx => h x (by simp [hx]))
      simp only [List.length_append, List.length_cons] at this ⊢; omega
    · have := escF_len r (out ++ escRun run ++ encB c) [] (fun x hx => h x (by simp [hx]))
      simp only [List.length_append, List.length_cons, List.length_nil] at this ⊢; omega
theorem escL_len (s : List UInt8) : (escL s).length ≤ 2 + 8 * s.length := by
  have h1 := escF_len (charsL s) [] [] (charsL_may s)
  have h2 : (charsL s).length ≤ s.length := chars_len ⟨s.toArray⟩
  unfold escL
  simp only [List.length_nil] at h1; omega
theorem litF_snoc {l : List Pc} {k : Nat} (hk : k < l.length) : litF (l.take (k + 1)) = litF (l.take k) ++ escL l[k].2 := by
  unfold litF; rw [List.take_succ_eq_append_getElem hk, List.flatMap_append]; simp
set_option maxHeartbeats 4000000 in
set_option maxRecDepth 100000 in
theorem pieces_ (A : Option Addr) (c : Nat) (l : List Pc) (w : World) (hA : Row w A (pcsV l)) (h0 : 2 < w.heap.size) (HM : ∃ m, w.cell? ⟨2, 0, none⟩ = some (.int .i64 m)) (hl : l.length ≤ 1000) (hk : ∀ p ∈ l, p.1 = 0 ∧ p.2.length ≤ 100000) :
    Calls Tryz.prog 102 #[.slice A l.length c] w fun e w' => e = .returned (.string ⟨(litF l).toArray⟩) ∧ Ext w w' := by
  have HK := Lib.hid hk
  clear hk
  go_enter Tryz.func102, Tryz.ntmps102
  go_wp2
  go_loopw [3, 8] (fun s i wr => ∃ k : Nat, k ≤ l.length ∧ i = .int .i64 k ∧ Ext w wr ∧ s = .string ⟨(litF (l.take k)).toArray⟩ ∧ (litF (l.take k)).length ≤ 800002 * k) (fun _ i _ => l.length - (intOf i).toNat)
  case atStart => exact ⟨0, Nat.zero_le _, rfl, Ext.refl _, rfl, by simp [litF]⟩
  case round =>
    obtain ⟨k, hk, rfl, hx, rfl, hle⟩ := hrel
    by_cases hlt : k < l.length
    · obtain ⟨b, off, rfl, hc1, hc2⟩ := row_pc (hA.below hx (Nat.le_refl _)) hlt
      have HR := Lib.hid (pc_range hc1 hc2)
      have HS := Lib.hid (litF_snoc hlt)
      have hp := HK.out _ (List.getElem_mem hlt)
      generalize l[k] = x at *
      obtain ⟨j, t⟩ := x
      obtain ⟨hj, ht⟩ := hp
      simp only at hj ht
      subst hj
      have hbx := Box.new wr 96 [.int .i64 0, .string ⟨t.toArray⟩]
      have hxb : Ext w (wr.alloc (.cells #[.int .i64 0, .string ⟨t.toArray⟩] 96)) := Ext.alloc_ hx _
      have HX := Lib.hid hxb
      have hM2 : ∃ m, (wr.alloc (.cells #[.int .i64 0, .string ⟨t.toArray⟩] 96)).cell? ⟨2, 0, none⟩ = some (.int .i64 m) := by
        obtain ⟨m, hm⟩ := HM
        exact ⟨m, Ext.cell_ hxb hm⟩
      have hs2 : 2 < (wr.alloc (.cells #[.int .i64 0, .string ⟨t.toArray⟩] 96)).heap.size := by have := hxb.size; omega
      go_wp2_with (first | (refine wpList_load_mid rfl 96 (.tmp 10) rfl b (off + k * 2) rfl [.int .i64 0, .string ⟨t.toArray⟩] _ HR.out Tryz.underlying96 rfl infoPc ?_))
      have hel := escL_len t
      refine (escaped_ t _ hs2 hM2 (by omega)).mono ?_; rintro e w2 ⟨rfl, hx2⟩
      go_wp2
      go_roundw
      case rel => exact ⟨k + 1, by omega, by go_num, HX.out.trans hx2, by rw [HS.out, app_mk], by rw [HS.out, List.length_append]; omega⟩
      case measure => simp [intOf]; omega
    · have e : k = l.length := by omega
      subst e
      rw [List.take_length]
      go_wp2
      go_ret
      exact ⟨rfl, hx⟩

/-! ### a number's signs, of at most one digit -/
def sigB (m : Int) : List UInt8 := if m = 0 then [35] else [48]
set_option maxHeartbeats 4000000 in
set_option maxRecDepth 100000 in
theorem signed_ (S1 S2 S3 S4 : Value) (m : Int) (hm : m = 0 ∨ m = 1) (w : World) :
    Calls Tryz.prog 103 #[.agg (patC S1 S2 S3 S4 ⟨0, 0, m, 0, 0⟩).toArray] w fun e w' => e = .returned (.string ⟨(sigB m).toArray⟩) ∧ Ext w w' := by
  have hb1 := Box.new w 28 (patC S1 S2 S3 S4 ⟨0, 0, m, 0, 0⟩)
  have hx1 : Ext w (w.alloc (.cells (patC S1 S2 S3 S4 ⟨0, 0, m, 0, 0⟩).toArray 28)) := Ext.alloc_ (Ext.refl w) _
  have hs1 : (w.alloc (.cells (patC S1 S2 S3 S4 ⟨0, 0, m, 0, 0⟩).toArray 28)).heap.size = w.heap.size + 1 := by simp
  go_enter Tryz.func103, Tryz.ntmps103
  go_upto_region 1 with fail
  change Code.wp _ _ _ _ (w.alloc (.cells (patC S1 S2 S3 S4 ⟨0, 0, m, 0, 0⟩).toArray 28))
  generalize w.alloc (.cells (patC S1 S2 S3 S4 ⟨0, 0, m, 0, 0⟩).toArray 28) = w1 at *
  have k4 := hb1.cell (j := 4) (v := .int .i64 0) rfl
  have k5 := hb1.cell (j := 5) (v := .int .i64 0) rfl
  have k6 := hb1.cell (j := 6) (v := .int .i64 m) rfl
  have k7 := hb1.cell (j := 7) (v := .int .i64 0) rfl
  have k8 := hb1.cell (j := 8) (v := .int .i64 0) rfl
  have HX := Lib.hid hx1
  have hx2 : Ext w1 (w1.alloc (.cells #[] 3)) := Ext.alloc_ (Ext.refl _) _
  have HX2 := Lib.hid hx2
  have l4 := Ext.cell_ hx2 k4
  have l5 := Ext.cell_ hx2 k5
  have l6 := Ext.cell_ hx2 k6
  have l7 := Ext.cell_ hx2 k7
  have l8 := Ext.cell_ hx2 k8
  clear hs1 hx1 hx2 hb1
  rcases hm with rfl | rfl
  · go_wp2
    go_loop [5, 6] (fun s i => (i = .int .i64 1 ∧ s = .string ⟨#[]⟩) ∨ (i = .int .i64 0 ∧ s = .string ⟨#[35]⟩)) (fun _ i => (intOf i).toNat)
    case atStart => exact .inl ⟨rfl, rfl⟩
    case round =>
      rcases hrel with ⟨rfl, rfl⟩ | ⟨rfl, rfl⟩
      · go_wp2
        go_round
        case rel => exact .inr ⟨rfl, rfl⟩
        case measure => decide
      · go_wp2
        go_ret
        exact ⟨rfl, HX.out.trans HX2.out⟩
  · go_wp2
    go_loop [5, 6] (fun s i => (i = .int .i64 1 ∧ s = .string ⟨#[]⟩) ∨ (i = .int .i64 0 ∧ s = .string ⟨#[48]⟩)) (fun _ i => (intOf i).toNat)
    case atStart => exact .inl ⟨rfl, rfl⟩
    case round =>
      rcases hrel with ⟨rfl, rfl⟩ | ⟨rfl, rfl⟩
      · go_wp2
        go_round
        case rel => exact .inr ⟨rfl, rfl⟩
        case measure => decide
      · go_wp2
        go_ret
        exact ⟨rfl, HX.out.trans HX2.out⟩
end Go.Proofs.YtdkjkbbibdppoaaGreatDoor.Pat

/- Patterns of numbers: the walk of Print, at patterns without groups and decimals, whose negative half is the plain one. -/
namespace Go.Proofs.YtdkjkbbibdppoaaGreatDoor.Pat
open Go.RowKit Utf All Small Strs Build EncC
set_option linter.unusedVariables false
set_option linter.unusedSimpArgs false

theorem litF_len (l : List Pc) (h : ∀ x ∈ l, x.1 = 0 ∧ x.2.length ≤ 100000) : (litF l).length ≤ 800002 * l.length := by
  induction l with
  | nil => simp [litF]
  | cons x l ih =>
    have h1 := escL_len x.2
    have h2 := (h x (by simp)).2
    have h3 := ih (fun y hy => h y (by simp [hy]))
    have e : litF (x :: l) = escL x.2 ++ litF l := rfl
    rw [e, List.length_append, List.length_cons]; omega
theorem sigB_len (m : Int) : (sigB m).length = 1 := by unfold sigB; split <;> rfl
def printF (p s : List Pc) (m : Int) : List UInt8 := litF p ++ sigB m ++ litF s
theorem equal_same (A B : Option Addr) (c d n : Nat) (l : List Pc) (w : World) (hn : l.length = n) (hA : Row w A (pcsV l)) (hB : Row w B (pcsV l)) (hl : l.length ≤ 10000000000) :
    Calls Tryz.prog 58 #[.slice A n c, .slice B n d] w fun e w' => e = .returned (.bool true) ∧ Ext w w' :=
  (equal_n A B c d n n l l w hn hn hA hB hl hl).mono fun e w' ⟨h1, h2⟩ => ⟨by rw [h1, decide_eq_true rfl], h2⟩
set_option maxHeartbeats 2000000 in
set_option maxRecDepth 100000 in
theorem print_ (A B C D : Option Addr) (c d a b : Nat) (p s : List Pc) (m : Int) (w : World) (hA : Row w A (pcsV p)) (hB : Row w B (pcsV s)) (hC : Row w C (pcsV ((3, []) :: p))) (hD : Row w D (pcsV s)) (hcA : Okc A c) (hcB : Okc B d)
    (h0 : 2 < w.heap.size) (HM : ∃ m, w.cell? ⟨2, 0, none⟩ = some (.int .i64 m)) (hm : m = 0 ∨ m = 1) (hp : p.length ≤ 900) (hs : s.length ≤ 900) (hkp : ∀ x ∈ p, x.1 = 0 ∧ x.2.length ≤ 100000) (hks : ∀ x ∈ s, x.1 = 0 ∧ x.2.length ≤ 100000) :
    Calls Tryz.prog 60 #[.agg (patC (.slice A p.length c) (.slice B s.length d) (.slice C (p.length + 1) a) (.slice D s.length b) ⟨0, 0, m, 0, 0⟩).toArray] w fun e w' => e = .returned (.string ⟨(printF p s m).toArray⟩) ∧ Ext w w' := by
  have hb1 := Box.new w 28 (patC (.slice A p.length c) (.slice B s.length d) (.slice C (p.length + 1) a) (.slice D s.length b) ⟨0, 0, m, 0, 0⟩)
  have hx1 : Ext w (w.alloc (.cells (patC (.slice A p.length c) (.slice B s.length d) (.slice C (p.length + 1) a) (.slice D s.length b) ⟨0, 0, m, 0, 0⟩).toArray 28)) := Ext.alloc_ (Ext.refl w) _
  go_enter Tryz.func60, Tryz.ntmps60
  go_upto_region 1 with fail
  change Code.wp _ _ _ _ (w.alloc (.cells (patC (.slice A p.length c) (.slice B s.length d) (.slice C (p.length + 1) a) (.slice D s.length b) ⟨0, 0, m, 0, 0⟩).toArray 28))
  generalize w.alloc (.cells (patC (.slice A p.length c) (.slice B s.length d) (.slice C (p.length + 1) a) (.slice D s.length b) ⟨0, 0, m, 0, 0⟩).toArray 28) = w1 at *
  have k0 := hb1.cell (j := 0) (v := .slice A p.length c) rfl
  have k1 := hb1.cell (j := 1) (v := .slice B s.length d) rfl
  have k2 := hb1.cell (j := 2) (v := .slice C (p.length + 1) a) rfl
  have k3 := hb1.cell (j := 3) (v := .slice D s.length b) rfl
  have k4 := hb1.cell (j := 4) (v := .int .i64 0) rfl
  have k5 := hb1.cell (j := 5) (v := .int .i64 0) rfl
  have k6 := hb1.cell (j := 6) (v := .int .i64 m) rfl
  have k7 := hb1.cell (j := 7) (v := .int .i64 0) rfl
  have k8 := hb1.cell (j := 8) (v := .int .i64 0) rfl
  have HM1 : ∀ W, Ext w1 W → ∃ m, W.cell? ⟨2, 0, none⟩ = some (.int .i64 m) := fun W hW => by
    obtain ⟨m, hm⟩ := HM
    exact ⟨m, Ext.cell_ (hx1.trans hW) hm⟩
  have hsz : ∀ W, Ext w1 W → 2 < W.heap.size := fun W hW => by have := hx1.size; have := hW.size; omega
  have HP : Hid (∀ W, Ext w1 W → Calls Tryz.prog 102 #[.slice A p.length c] W fun e w' => e = .returned (.string ⟨(litF p).toArray⟩) ∧ Ext W w') := Lib.hid (fun W hW => pieces_ A c p W (hA.below (hx1.trans hW) (Nat.le_refl _)) (hsz W hW) (HM1 W hW) (by omega) hkp)
  have HS : Hid (∀ W, Ext w1 W → Calls Tryz.prog 102 #[.slice B s.length d] W fun e w' => e = .returned (.string ⟨(litF s).toArray⟩) ∧ Ext W w') := Lib.hid (fun W hW => pieces_ B d s W (hB.below (hx1.trans hW) (Nat.le_refl _)) (hsz W hW) (HM1 W hW) (by omega) hks)
  have HG : Hid (∀ W, Ext w1 W → Calls Tryz.prog 103 #[.agg #[.slice A p.length c, .slice B s.length d, .slice C (p.length + 1) a, .slice D s.length b, .int .i64 0, .int .i64 0, .int .i64 m, .int .i64 0, .int .i64 0]] W fun e w' => e = .returned (.string ⟨(sigB m).toArray⟩) ∧ Ext W w') := Lib.hid (fun W hW => signed_ (.slice A p.length c) (.slice B s.length d) (.slice C (p.length + 1) a) (.slice D s.length b) m hm W)
  have HL : Hid (∀ W, Ext w1 W → Calls Tryz.prog 53 #[.agg #[.slice A p.length c, .slice B s.length d, .slice C (p.length + 1) a, .slice D s.length b, .int .i64 0, .int .i64 0, .int .i64 m, .int .i64 0, .int .i64 0]] W fun e w' =>
      ∃ A' c' B' d', e = .returned (.tuple #[.slice A' (p.length + 1) c', .slice B' s.length d']) ∧ Row w' A' (pcsV ((3, []) :: p)) ∧ Row w' B' (pcsV s) ∧ Ext W w') := Lib.hid (fun W hW => (plain_ A B c d p s (.slice C (p.length + 1) a) (.slice D s.length b) ⟨0, 0, m, 0, 0⟩ W (hA.below (hx1.trans hW) (Nat.le_refl _)) (hB.below (hx1.trans hW) (Nat.le_refl _)) hcA hcB (by omega) (by omega)).mono fun e w' ⟨A', c', B', d', h1, h2, h3, _, _, _, _, _, _, h4⟩ => ⟨A', c', B', d', h1, h2, h3, h4⟩)
  have HC : Hid (∀ W, Ext w1 W → Row W C (pcsV ((3, []) :: p)) ∧ Row W D (pcsV s)) := Lib.hid (fun W hW => ⟨hC.below (hx1.trans hW) (Nat.le_refl _), hD.below (hx1.trans hW) (Nat.le_refl _)⟩)
  have HX := Lib.hid hx1
  have hE1 : Ext w1 w1 := Ext.refl w1
  have hlp : (litF p).length ≤ 1000000000 := by have := litF_len p hkp; omega
  have hls : (litF s).length ≤ 1000000000 := by have := litF_len s hks; omega
  have hsg : (sigB m).length ≤ 1 := by rw [sigB_len]; exact Nat.le_refl _
  have hq1 : (9223372036854775807 < (litF p).length + (sigB m).length) = False := by rw [eq_iff_iff, iff_false]; omega
  have hq2 : (9223372036854775807 < (litF p).length + (sigB m).length + (litF s).length) = False := by rw [eq_iff_iff, iff_false]; omega
  clear hx1 HM1 hsz hb1
  go_cut [3] (fun u wx => u = .string ⟨(printF p s m).toArray⟩ ∧ Ext w1 wx)
  case first =>
    go_region_held3 (fun W => Ext w1 W ∧ W.cell? ⟨w.heap.size, 0, none⟩ = some (.slice A p.length c) ∧ W.cell? ⟨w.heap.size, 1, none⟩ = some (.slice B s.length d) ∧ W.cell? ⟨w.heap.size, 2, none⟩ = some (.slice C (p.length + 1) a) ∧ W.cell? ⟨w.heap.size, 3, none⟩ = some (.slice D s.length b) ∧
        W.cell? ⟨w.heap.size, 4, none⟩ = some (.int .i64 0) ∧ W.cell? ⟨w.heap.size, 5, none⟩ = some (.int .i64 0) ∧ W.cell? ⟨w.heap.size, 6, none⟩ = some (.int .i64 m) ∧ W.cell? ⟨w.heap.size, 7, none⟩ = some (.int .i64 0) ∧ W.cell? ⟨w.heap.size, 8, none⟩ = some (.int .i64 0))
      (first
        | exact ⟨Ext.drew_ (Ext.refl _), k0, k1, k2, k3, k4, k5, k6, k7, k8⟩
        | exact ⟨Ext.refl _, k0, k1, k2, k3, k4, k5, k6, k7, k8⟩
        | (refine (fun h => ⟨h, Ext.cell_ h k0, Ext.cell_ h k1, Ext.cell_ h k2, Ext.cell_ h k3, Ext.cell_ h k4, Ext.cell_ h k5, Ext.cell_ h k6, Ext.cell_ h k7, Ext.cell_ h k8⟩) ?_; first | assumption | exact Ext.drew_ (by assumption)))
      (first
        | (go_at_call 103; with_reducible refine (HG.out _ ?_).mono ?_; (first | assumption | exact Ext.drew_ (Ext.refl _)); rintro e w3 ⟨rfl, hx3⟩; (first | (have hE3 := (Ext.drew_ (Ext.refl w1)).trans hx3) | (rename Ext w1 _ => hEo; have hE3 := hEo.trans hx3)))
        | (go_at_call 102; with_reducible refine (HP.out _ ?_).mono ?_; (first | assumption | exact Ext.drew_ (Ext.refl _)); rintro e w3 ⟨rfl, hx3⟩; (first | (have hE3 := (Ext.drew_ (Ext.refl w1)).trans hx3) | (rename Ext w1 _ => hEo; have hE3 := hEo.trans hx3)))
        | (go_at_call 102; with_reducible refine (HS.out _ ?_).mono ?_; (first | assumption | exact Ext.drew_ (Ext.refl _)); rintro e w3 ⟨rfl, hx3⟩; (first | (have hE3 := (Ext.drew_ (Ext.refl w1)).trans hx3) | (rename Ext w1 _ => hEo; have hE3 := hEo.trans hx3))))
    all_goals go_wp2_with fail
    all_goals go_meet
    all_goals exact ⟨by rw [app_mk, app_mk]; rfl, by assumption⟩
  case rest =>
    obtain ⟨rfl, hE⟩ := hcut
    rename_i wx
    have j0 := Ext.cell_ hE k0
    have j1 := Ext.cell_ hE k1
    have j2 := Ext.cell_ hE k2
    have j3 := Ext.cell_ hE k3
    have j4 := Ext.cell_ hE k4
    have j5 := Ext.cell_ hE k5
    have j6 := Ext.cell_ hE k6
    have j7 := Ext.cell_ hE k7
    have j8 := Ext.cell_ hE k8
    go_wp2_with fail
    refine (HL.out _ hE).mono ?_; rintro e w3 ⟨A', c', B', d', rfl, hA', hB', hx3⟩
    have hE3 := hE.trans hx3
    have i2 := Ext.cell_ hE3 k2
    have i3 := Ext.cell_ hE3 k3
    go_wp2_with fail
    refine (equal_same _ _ _ _ _ ((3, []) :: p) w3 (by simp) hA' ((HC.out _ hE3).1) (by simp; omega)).mono ?_; rintro e w4 ⟨rfl, hx4⟩
    have hE4 := hE3.trans hx4
    have i3' := Ext.cell_ hE4 k3
    go_wp2_with fail
    refine (equal_same _ _ _ _ _ s w4 rfl (hB'.below hx4 (Nat.le_refl _)) ((HC.out _ hE4).2) (by omega)).mono ?_; rintro e w5 ⟨rfl, hx5⟩
    go_wp2
    go_ret
    exact ⟨rfl, HX.out.trans (hE4.trans hx5)⟩
end Go.Proofs.YtdkjkbbibdppoaaGreatDoor.Pat

/- The laws' own example (lives), and Parse at texts that are known. -/
namespace Go.Proofs.YtdkjkbbibdppoaaGreatDoor.Pat
open Go.RowKit Utf All Small Strs Build EncC
set_option linter.unusedVariables false
set_option linter.unusedSimpArgs false

theorem pos_of {w : World} (HM : ∃ m, w.cell? ⟨2, 0, none⟩ = some (.int .i64 m)) : 2 < w.heap.size := by
  obtain ⟨m, hm⟩ := HM
  exact block_lt hm
theorem parse_ok {s : ByteArray} {p : Pt} (hp : parseF s.data.toList = .ok p) (w : World) (hs : s.size ≤ 100000000) :
    Calls Tryz.prog 11 #[.string s] w fun e w' => ∃ A c B d C a D b, e = .returned (.tuple #[.agg (patC (.slice A p.pre.length c) (.slice B p.suf.length d) (.slice C p.npre.length a) (.slice D p.nsuf.length b) p.num).toArray, .int .i64 0]) ∧
      Row w' A (pcsV p.pre) ∧ Row w' B (pcsV p.suf) ∧ Row w' C (pcsV p.npre) ∧ Row w' D (pcsV p.nsuf) ∧ Okc A c ∧ Okc B d ∧ Okc C a ∧ Okc D b ∧ Ext w w' :=
  (parse_ s w hs).mono fun e w' h => by rw [hp] at h; exact h
theorem parse_no {s : ByteArray} {x : Int} (hp : parseF s.data.toList = .error x) (w : World) (hs : s.size ≤ 100000000) :
    Calls Tryz.prog 11 #[.string s] w fun e w' => e = .returned (errV x) ∧ Ext w w' :=
  (parse_ s w hs).mono fun e w' h => by rw [hp] at h; exact h
def lives1 : Pt := ⟨[], [(0, [32, 120])], [(3, [])], [(0, [32, 120])], ⟨3, 3, 1, 2, 2⟩⟩
def lives2 : Pt := ⟨[(0, [40])], [(0, [41])], [(3, []), (0, [40])], [(0, [41])], ⟨0, 0, 1, 0, 0⟩⟩
theorem livesP1 : parseF [35, 44, 35, 35, 48, 46, 48, 48, 32, 120] = .ok lives1 := by kernel_rfl
theorem livesP2 : parseF [40, 48, 41] = .ok lives2 := by kernel_rfl
theorem livesT : (printF lives2.pre lives2.suf 1) = [40, 48, 41] := by kernel_rfl
set_option maxHeartbeats 4000000 in
set_option maxRecDepth 100000 in
theorem lives_ (w : World) (h0 : 2 < w.heap.size) (HM : ∃ m, w.cell? ⟨2, 0, none⟩ = some (.int .i64 m)) :
    Calls Tryz.prog 16 #[] w fun e w' => e = .returned (.bool true) ∧ Ext w w' := by
  go_enter Tryz.func16, Tryz.ntmps16
  go_wp2_with fail
  refine (parse_ok (s := ⟨#[35, 44, 35, 35, 48, 46, 48, 48, 32, 120]⟩) livesP1 _ (by decide)).mono ?_
  rintro e w1 ⟨A, c, B, d, C, a, D, b, rfl, hA, hB, hC, hD, oA, oB, oC, oD, hx1⟩
  go_wp2_with (refine wpList_store_fresh rfl 28 (.tmp 1) (.tmp 7) rfl (patC (.slice A lives1.pre.length c) (.slice B lives1.suf.length d) (.slice C lives1.npre.length a) (.slice D lives1.nsuf.length b) lives1.num).toArray 28 _ rfl rfl infoPat rfl pat_one ?_)
  have hn1 := Box.new w1 28 (patC (.slice A lives1.pre.length c) (.slice B lives1.suf.length d) (.slice C lives1.npre.length a) (.slice D lives1.nsuf.length b) lives1.num)
  have hx2 : Ext w (w1.alloc (.cells (patC (.slice A lives1.pre.length c) (.slice B lives1.suf.length d) (.slice C lives1.npre.length a) (.slice D lives1.nsuf.length b) lives1.num).toArray 28)) := Ext.alloc_ hx1 _
  generalize w1.alloc (.cells (patC (.slice A lives1.pre.length c) (.slice B lives1.suf.length d) (.slice C lives1.npre.length a) (.slice D lives1.nsuf.length b) lives1.num).toArray 28) = w2 at *
  refine (parse_ok (s := ⟨#[40, 48, 41]⟩) livesP2 w2 (by decide)).mono ?_
  rintro e w3 ⟨A', c', B', d', C', a', D', b', rfl, hA', hB', hC', hD', oA', oB', oC', oD', hx3⟩
  have hn3 := Box.new w3 28 (patC (.slice A' lives2.pre.length c') (.slice B' lives2.suf.length d') (.slice C' lives2.npre.length a') (.slice D' lives2.nsuf.length b') lives2.num)
  have hx4 : Ext w3 (w3.alloc (.cells (patC (.slice A' lives2.pre.length c') (.slice B' lives2.suf.length d') (.slice C' lives2.npre.length a') (.slice D' lives2.nsuf.length b') lives2.num).toArray 28)) := Ext.alloc_ (Ext.refl _) _
  have hw4 : ∃ w4, w4 = w3.alloc (.cells (patC (.slice A' lives2.pre.length c') (.slice B' lives2.suf.length d') (.slice C' lives2.npre.length a') (.slice D' lives2.nsuf.length b') lives2.num).toArray 28) := ⟨_, rfl⟩
  obtain ⟨w4, hw4⟩ := hw4
  rw [← hw4] at hn3 hx4
  have hm1 : Box w4 w1.heap.size 28 _ := (hn1.ext hx3).ext hx4
  have i4 := hm1.cell (j := 4) (v := .int .i64 3) rfl
  have i6 := hm1.cell (j := 6) (v := .int .i64 1) rfl
  have i7 := hm1.cell (j := 7) (v := .int .i64 2) rfl
  have k0 := hn3.cell (j := 0) (v := .slice A' 1 c') rfl
  have k1 := hn3.cell (j := 1) (v := .slice B' 1 d') rfl
  have k2 := hn3.cell (j := 2) (v := .slice C' 2 a') rfl
  have k3 := hn3.cell (j := 3) (v := .slice D' 1 b') rfl
  have k4 := hn3.cell (j := 4) (v := .int .i64 0) rfl
  have k5 := hn3.cell (j := 5) (v := .int .i64 0) rfl
  have k6 := hn3.cell (j := 6) (v := .int .i64 1) rfl
  have k7 := hn3.cell (j := 7) (v := .int .i64 0) rfl
  have k8 := hn3.cell (j := 8) (v := .int .i64 0) rfl
  have HX : Hid (Ext w w4) := Lib.hid ((hx2.trans hx3).trans hx4)
  have HM4 : ∃ m, w4.cell? ⟨2, 0, none⟩ = some (.int .i64 m) := by
    obtain ⟨m, hm⟩ := HM
    exact ⟨m, Ext.cell_ HX.out hm⟩
  have h04 : 2 < w4.heap.size := by have := HX.out.size; omega
  have HR : Hid (Row w4 A' (pcsV lives2.pre) ∧ Row w4 B' (pcsV lives2.suf) ∧ Row w4 C' (pcsV lives2.npre) ∧ Row w4 D' (pcsV lives2.nsuf)) := Lib.hid ⟨hA'.below hx4 (Nat.le_refl _), hB'.below hx4 (Nat.le_refl _), hC'.below hx4 (Nat.le_refl _), hD'.below hx4 (Nat.le_refl _)⟩
  clear hx2 hx3 hx4 hm1 hn1 hn3 hA hB hC hD hA' hB' hC' hD'
  have HM5 := Lib.hid HM4
  have H05 := Lib.hid h04
  clear HM4 h04
  subst hw4
  go_wp2_with (refine wpList_store_fresh rfl 28 (.tmp 3) (.tmp 11) rfl (patC (.slice A' lives2.pre.length c') (.slice B' lives2.suf.length d') (.slice C' lives2.npre.length a') (.slice D' lives2.nsuf.length b') lives2.num).toArray 28 _ rfl rfl infoPat rfl pat_one ?_)
  refine (print_ A' B' C' D' c' d' a' b' lives2.pre lives2.suf 1 _ HR.out.1 HR.out.2.1 HR.out.2.2.1 HR.out.2.2.2 oA' oB' H05.out HM5.out (.inr rfl) (by decide) (by decide) (by decide) (by decide)).mono ?_
  rintro e w5 ⟨rfl, hx5⟩
  rw [livesT]
  go_wp2
  go_ret
  exact ⟨rfl, HX.out.trans hx5⟩
end Go.Proofs.YtdkjkbbibdppoaaGreatDoor.Pat

/- Patterns of numbers: whether two are the same; pieces' texts. (Printed by wip/gen/same.py.) -/
namespace Go.Proofs.YtdkjkbbibdppoaaGreatDoor.Pat
open Go.RowKit Utf All Small Strs Build EncC
set_option linter.unusedVariables false
set_option linter.unusedSimpArgs false

/-- a pattern's value, and where its pieces lie -/
def ptV (A B C D : Option Addr) (c d a b : Nat) (p : Pt) : Value := .agg (patC (.slice A p.pre.length c) (.slice B p.suf.length d) (.slice C p.npre.length a) (.slice D p.nsuf.length b) p.num).toArray
def PtR (w : World) (A B C D : Option Addr) (p : Pt) : Prop := Row w A (pcsV p.pre) ∧ Row w B (pcsV p.suf) ∧ Row w C (pcsV p.npre) ∧ Row w D (pcsV p.nsuf)
theorem PtR.ext {w w' : World} {A B C D : Option Addr} {p : Pt} (h : PtR w A B C D p) (hx : Ext w w') : PtR w' A B C D p := ⟨h.1.below hx (Nat.le_refl _), h.2.1.below hx (Nat.le_refl _), h.2.2.1.below hx (Nat.le_refl _), h.2.2.2.below hx (Nat.le_refl _)⟩
def PtB (p : Pt) : Prop := p.pre.length ≤ 1000000000 ∧ p.suf.length ≤ 1000000000 ∧ p.npre.length ≤ 1000000000 ∧ p.nsuf.length ≤ 1000000000
set_option maxHeartbeats 4000000 in
set_option maxRecDepth 100000 in
theorem same_ (A B C D A' B' C' D' : Option Addr) (c d a b c' d' a' b' : Nat) (p q : Pt) (w : World) (hp : PtR w A B C D p) (hq : PtR w A' B' C' D' q) (bp : PtB p) (bq : PtB q) :
    Calls Tryz.prog 14 #[ptV A B C D c d a b p, ptV A' B' C' D' c' d' a' b' q] w fun e w' => e = .returned (.bool (decide (p = q))) ∧ Ext w w' := by
  unfold ptV
  obtain ⟨p0, p1, p2, p3, ⟨x4, x5, x6, x7, x8⟩⟩ := p
  obtain ⟨q0, q1, q2, q3, ⟨y4, y5, y6, y7, y8⟩⟩ := q
  obtain ⟨bp0, bp1, bp2, bp3⟩ := bp
  obtain ⟨bq0, bq1, bq2, bq3⟩ := bq
  simp only at bp0 bp1 bp2 bp3 bq0 bq1 bq2 bq3
  generalize hu : patC (.slice A p0.length c) (.slice B p1.length d) (.slice C p2.length a) (.slice D p3.length b) ⟨x4, x5, x6, x7, x8⟩ = u
  generalize hv : patC (.slice A' q0.length c') (.slice B' q1.length d') (.slice C' q2.length a') (.slice D' q3.length b') ⟨y4, y5, y6, y7, y8⟩ = v
  have hb1 := (Box.new w 28 u).alloc (.cells v.toArray 28)
  have hb2 : Box ((w.alloc (.cells u.toArray 28)).alloc (.cells v.toArray 28)) (w.heap.size + 1) 28 v := by
    have := Box.new (w.alloc (.cells u.toArray 28)) 28 v
    rwa [World.size_alloc] at this
  have hx0 : Ext w ((w.alloc (.cells u.toArray 28)).alloc (.cells v.toArray 28)) := Ext.alloc_ (Ext.alloc_ (Ext.refl w) _) _
  go_enter Tryz.func14, Tryz.ntmps14
  go_upto_region 1 with fail
  change Code.wp _ _ _ _ ((w.alloc (.cells u.toArray 28)).alloc (.cells v.toArray 28))
  generalize (w.alloc (.cells u.toArray 28)).alloc (.cells v.toArray 28) = w2 at *
  subst hu
  subst hv
  have k0 := hb1.cell (j := 0) (v := .slice A p0.length c) rfl
  have l0 := hb2.cell (j := 0) (v := .slice A' q0.length c') rfl
  have k1 := hb1.cell (j := 1) (v := .slice B p1.length d) rfl
  have l1 := hb2.cell (j := 1) (v := .slice B' q1.length d') rfl
  have k2 := hb1.cell (j := 2) (v := .slice C p2.length a) rfl
  have l2 := hb2.cell (j := 2) (v := .slice C' q2.length a') rfl
  have k3 := hb1.cell (j := 3) (v := .slice D p3.length b) rfl
  have l3 := hb2.cell (j := 3) (v := .slice D' q3.length b') rfl
  have k4 := hb1.cell (j := 4) (v := .int .i64 x4) rfl
  have l4 := hb2.cell (j := 4) (v := .int .i64 y4) rfl
  have k5 := hb1.cell (j := 5) (v := .int .i64 x5) rfl
  have l5 := hb2.cell (j := 5) (v := .int .i64 y5) rfl
  have k6 := hb1.cell (j := 6) (v := .int .i64 x6) rfl
  have l6 := hb2.cell (j := 6) (v := .int .i64 y6) rfl
  have k7 := hb1.cell (j := 7) (v := .int .i64 x7) rfl
  have l7 := hb2.cell (j := 7) (v := .int .i64 y7) rfl
  have k8 := hb1.cell (j := 8) (v := .int .i64 x8) rfl
  have l8 := hb2.cell (j := 8) (v := .int .i64 y8) rfl
  have HX := Lib.hid hx0
  have HP := Lib.hid (hp.ext hx0)
  have HQ := Lib.hid (hq.ext hx0)
  have hE2 : Ext w2 w2 := Ext.refl w2
  clear hx0 hb1 hb2 hp hq
  go_wp2_with fail
  refine (equal_n _ _ _ _ _ _ p0 q0 w2 rfl rfl (HP.out.ext hE2).1 (HQ.out.ext hE2).1 (by omega) (by omega)).mono ?_; rintro e w3 ⟨rfl, hx3⟩
  have hE3 := hE2.trans hx3
  clear hx3
  have k1_0 := Ext.cell_ hE3 k1
  have l1_0 := Ext.cell_ hE3 l1
  by_cases h0 : p0 = q0
  rotate_left
  · have HD : Hid (decide ((⟨p0, p1, p2, p3, ⟨x4, x5, x6, x7, x8⟩⟩ : Pt) = ⟨q0, q1, q2, q3, ⟨y4, y5, y6, y7, y8⟩⟩) = false) := Lib.hid (decide_eq_false fun e => h0 (congrArg Pt.pre e))
    rw [decide_eq_false h0]
    clear h0
    go_wp2
    go_ret
    exact ⟨by rw [HD.out]; rfl, HX.out.trans hE3⟩
  rw [decide_eq_true h0]
  have HH0 := Lib.hid h0
  clear h0
  go_wp2_with fail
  refine (equal_n _ _ _ _ _ _ p1 q1 w3 rfl rfl (HP.out.ext hE3).2.1 (HQ.out.ext hE3).2.1 (by omega) (by omega)).mono ?_; rintro e w4 ⟨rfl, hx4⟩
  have hE4 := hE3.trans hx4
  clear hx4
  have k2_1 := Ext.cell_ hE4 k2
  have l2_1 := Ext.cell_ hE4 l2
  by_cases h1 : p1 = q1
  rotate_left
  · have HD : Hid (decide ((⟨p0, p1, p2, p3, ⟨x4, x5, x6, x7, x8⟩⟩ : Pt) = ⟨q0, q1, q2, q3, ⟨y4, y5, y6, y7, y8⟩⟩) = false) := Lib.hid (decide_eq_false fun e => h1 (congrArg Pt.suf e))
    rw [decide_eq_false h1]
    clear h1
    go_wp2
    go_ret
    exact ⟨by rw [HD.out]; rfl, HX.out.trans hE4⟩
  rw [decide_eq_true h1]
  have HH1 := Lib.hid h1
  clear h1
  go_wp2_with fail
  refine (equal_n _ _ _ _ _ _ p2 q2 w4 rfl rfl (HP.out.ext hE4).2.2.1 (HQ.out.ext hE4).2.2.1 (by omega) (by omega)).mono ?_; rintro e w5 ⟨rfl, hx5⟩
  have hE5 := hE4.trans hx5
  clear hx5
  have k3_2 := Ext.cell_ hE5 k3
  have l3_2 := Ext.cell_ hE5 l3
  by_cases h2 : p2 = q2
  rotate_left
  · have HD : Hid (decide ((⟨p0, p1, p2, p3, ⟨x4, x5, x6, x7, x8⟩⟩ : Pt) = ⟨q0, q1, q2, q3, ⟨y4, y5, y6, y7, y8⟩⟩) = false) := Lib.hid (decide_eq_false fun e => h2 (congrArg Pt.npre e))
    rw [decide_eq_false h2]
    clear h2
    go_wp2
    go_ret
    exact ⟨by rw [HD.out]; rfl, HX.out.trans hE5⟩
  rw [decide_eq_true h2]
  have HH2 := Lib.hid h2
  clear h2
  go_wp2_with fail
  refine (equal_n _ _ _ _ _ _ p3 q3 w5 rfl rfl (HP.out.ext hE5).2.2.2 (HQ.out.ext hE5).2.2.2 (by omega) (by omega)).mono ?_; rintro e w6 ⟨rfl, hx6⟩
  have hE6 := hE5.trans hx6
  clear hx6
  have k4_3 := Ext.cell_ hE6 k4
  have l4_3 := Ext.cell_ hE6 l4
  have k5_3 := Ext.cell_ hE6 k5
  have l5_3 := Ext.cell_ hE6 l5
  have k6_3 := Ext.cell_ hE6 k6
  have l6_3 := Ext.cell_ hE6 l6
  have k7_3 := Ext.cell_ hE6 k7
  have l7_3 := Ext.cell_ hE6 l7
  have k8_3 := Ext.cell_ hE6 k8
  have l8_3 := Ext.cell_ hE6 l8
  by_cases h3 : p3 = q3
  rotate_left
  · have HD : Hid (decide ((⟨p0, p1, p2, p3, ⟨x4, x5, x6, x7, x8⟩⟩ : Pt) = ⟨q0, q1, q2, q3, ⟨y4, y5, y6, y7, y8⟩⟩) = false) := Lib.hid (decide_eq_false fun e => h3 (congrArg Pt.nsuf e))
    rw [decide_eq_false h3]
    clear h3
    go_wp2
    go_ret
    exact ⟨by rw [HD.out]; rfl, HX.out.trans hE6⟩
  rw [decide_eq_true h3]
  have HH3 := Lib.hid h3
  clear h3
  by_cases h4 : x4 = y4
  rotate_left
  · have HD : Hid (decide ((⟨p0, p1, p2, p3, ⟨x4, x5, x6, x7, x8⟩⟩ : Pt) = ⟨q0, q1, q2, q3, ⟨y4, y5, y6, y7, y8⟩⟩) = false) := Lib.hid (decide_eq_false fun e => h4 (congrArg (fun z : Pt => z.num.prim) e))
    have hb : (x4 == y4) = false := by simpa using h4
    clear h4
    go_wp2
    go_ret
    exact ⟨by rw [HD.out]; rfl, HX.out.trans hE6⟩
  have hb4 : (x4 == y4) = true := by simpa using h4
  have HH4 := Lib.hid h4
  clear h4
  by_cases h5 : x5 = y5
  rotate_left
  · have HD : Hid (decide ((⟨p0, p1, p2, p3, ⟨x4, x5, x6, x7, x8⟩⟩ : Pt) = ⟨q0, q1, q2, q3, ⟨y4, y5, y6, y7, y8⟩⟩) = false) := Lib.hid (decide_eq_false fun e => h5 (congrArg (fun z : Pt => z.num.sec) e))
    have hb : (x5 == y5) = false := by simpa using h5
    clear h5
    go_wp2
    go_ret
    exact ⟨by rw [HD.out]; rfl, HX.out.trans hE6⟩
  have hb5 : (x5 == y5) = true := by simpa using h5
  have HH5 := Lib.hid h5
  clear h5
  by_cases h6 : x6 = y6
  rotate_left
  · have HD : Hid (decide ((⟨p0, p1, p2, p3, ⟨x4, x5, x6, x7, x8⟩⟩ : Pt) = ⟨q0, q1, q2, q3, ⟨y4, y5, y6, y7, y8⟩⟩) = false) := Lib.hid (decide_eq_false fun e => h6 (congrArg (fun z : Pt => z.num.minInt) e))
    have hb : (x6 == y6) = false := by simpa using h6
    clear h6
    go_wp2
    go_ret
    exact ⟨by rw [HD.out]; rfl, HX.out.trans hE6⟩
  have hb6 : (x6 == y6) = true := by simpa using h6
  have HH6 := Lib.hid h6
  clear h6
  by_cases h7 : x7 = y7
  rotate_left
  · have HD : Hid (decide ((⟨p0, p1, p2, p3, ⟨x4, x5, x6, x7, x8⟩⟩ : Pt) = ⟨q0, q1, q2, q3, ⟨y4, y5, y6, y7, y8⟩⟩) = false) := Lib.hid (decide_eq_false fun e => h7 (congrArg (fun z : Pt => z.num.minFrac) e))
    have hb : (x7 == y7) = false := by simpa using h7
    clear h7
    go_wp2
    go_ret
    exact ⟨by rw [HD.out]; rfl, HX.out.trans hE6⟩
  have hb7 : (x7 == y7) = true := by simpa using h7
  have HH7 := Lib.hid h7
  clear h7
  by_cases h8 : x8 = y8
  rotate_left
  · have HD : Hid (decide ((⟨p0, p1, p2, p3, ⟨x4, x5, x6, x7, x8⟩⟩ : Pt) = ⟨q0, q1, q2, q3, ⟨y4, y5, y6, y7, y8⟩⟩) = false) := Lib.hid (decide_eq_false fun e => h8 (congrArg (fun z : Pt => z.num.maxFrac) e))
    have hb : (x8 == y8) = false := by simpa using h8
    clear h8
    go_wp2
    go_ret
    exact ⟨by rw [HD.out]; rfl, HX.out.trans hE6⟩
  have hb8 : (x8 == y8) = true := by simpa using h8
  have HH8 := Lib.hid h8
  clear h8
  have HD : Hid (decide ((⟨p0, p1, p2, p3, ⟨x4, x5, x6, x7, x8⟩⟩ : Pt) = ⟨q0, q1, q2, q3, ⟨y4, y5, y6, y7, y8⟩⟩) = true) := Lib.hid (decide_eq_true (by
    rw [HH0.out, HH1.out, HH2.out, HH3.out, HH4.out, HH5.out, HH6.out, HH7.out, HH8.out]))
  go_wp2
  go_ret
  exact ⟨by rw [HD.out]; rfl, HX.out.trans hE6⟩

def resF (cur per min : List UInt8) (l : List Pc) : List UInt8 := l.flatMap fun p => if p.1 = 1 then cur else if p.1 = 2 then per else if p.1 = 3 then min else p.2
theorem resF_snoc (cur per min : List UInt8) {l : List Pc} {k : Nat} (hk : k < l.length) : resF cur per min (l.take (k + 1)) = resF cur per min (l.take k) ++ (if l[k].1 = 1 then cur else if l[k].1 = 2 then per else if l[k].1 = 3 then min else l[k].2) := by
  unfold resF; rw [List.take_succ_eq_append_getElem hk, List.flatMap_append]; simp
set_option maxHeartbeats 4000000 in
set_option maxRecDepth 100000 in
theorem resolve_ (A : Option Addr) (c : Nat) (cur per min : List UInt8) (l : List Pc) (w : World) (hA : Row w A (pcsV l)) (hl : l.length ≤ 1000) (hc : cur.length ≤ 100000) (hp : per.length ≤ 100000) (hm : min.length ≤ 100000) (hk : ∀ p ∈ l, p.2.length ≤ 100000) :
    Calls Tryz.prog 139 #[.slice A l.length c, .string ⟨cur.toArray⟩, .string ⟨per.toArray⟩, .string ⟨min.toArray⟩] w fun e w' => e = .returned (.string ⟨(resF cur per min l).toArray⟩) ∧ Ext w w' := by
  have HK := Lib.hid hk
  clear hk
  go_enter Tryz.func139, Tryz.ntmps139
  go_wp2
  go_loopw [9, 14] (fun s i wr => ∃ k : Nat, k ≤ l.length ∧ i = .int .i64 k ∧ Ext w wr ∧ s = .string ⟨(resF cur per min (l.take k)).toArray⟩ ∧ (resF cur per min (l.take k)).length ≤ 100000 * k) (fun _ i _ => l.length - (intOf i).toNat)
  case atStart => exact ⟨0, Nat.zero_le _, rfl, Ext.refl _, rfl, by simp [resF]⟩
  case round =>
    obtain ⟨k, hk, rfl, hx, rfl, hle⟩ := hrel
    by_cases hlt : k < l.length
    · obtain ⟨b, off, rfl, hc1, hc2⟩ := row_pc (hA.below hx (Nat.le_refl _)) hlt
      have HR := Lib.hid (pc_range hc1 hc2)
      have HS := Lib.hid (resF_snoc cur per min hlt)
      have ht := HK.out _ (List.getElem_mem hlt)
      generalize l[k] = x at *
      obtain ⟨j, t⟩ := x
      simp only at ht
      have hbx := Box.new wr 96 [.int .i64 j, .string ⟨t.toArray⟩]
      have HX : Hid (Ext w (wr.alloc (.cells #[.int .i64 j, .string ⟨t.toArray⟩] 96))) := Lib.hid (Ext.alloc_ hx _)
      clear hx
      by_cases h1 : j = 1
      · have HV : Hid ((if (j, t).1 = 1 then cur else if (j, t).1 = 2 then per else if (j, t).1 = 3 then min else (j, t).2) = cur) := Lib.hid (by simp only; rw [if_pos h1])
        have hb1 : (j == 1) = true := by simpa using h1
        clear h1
        go_wp2_with (first | (refine wpList_load_mid rfl 96 (.tmp 16) rfl b (off + k * 2) rfl [.int .i64 j, .string ⟨t.toArray⟩] _ HR.out Tryz.underlying96 rfl infoPc ?_))
        go_roundw
        case rel => exact ⟨k + 1, by omega, by go_num, HX.out, by rw [HS.out, HV.out, app_mk], by rw [HS.out, HV.out, List.length_append]; omega⟩
        case measure => simp [intOf]; omega
      by_cases h2 : j = 2
      · have HV : Hid ((if (j, t).1 = 1 then cur else if (j, t).1 = 2 then per else if (j, t).1 = 3 then min else (j, t).2) = per) := Lib.hid (by simp only; rw [if_neg h1, if_pos h2])
        have hb1 : (j == 1) = false := by simpa using h1
        have hb2 : (j == 2) = true := by simpa using h2
        clear h1 h2
        go_wp2_with (first | (refine wpList_load_mid rfl 96 (.tmp 16) rfl b (off + k * 2) rfl [.int .i64 j, .string ⟨t.toArray⟩] _ HR.out Tryz.underlying96 rfl infoPc ?_))
        go_roundw
        case rel => exact ⟨k + 1, by omega, by go_num, HX.out, by rw [HS.out, HV.out, app_mk], by rw [HS.out, HV.out, List.length_append]; omega⟩
        case measure => simp [intOf]; omega
      by_cases h3 : j = 3
      · have HV : Hid ((if (j, t).1 = 1 then cur else if (j, t).1 = 2 then per else if (j, t).1 = 3 then min else (j, t).2) = min) := Lib.hid (by simp only; rw [if_neg h1, if_neg h2, if_pos h3])
        have hb1 : (j == 1) = false := by simpa using h1
        have hb2 : (j == 2) = false := by simpa using h2
        have hb3 : (j == 3) = true := by simpa using h3
        clear h1 h2 h3
        go_wp2_with (first | (refine wpList_load_mid rfl 96 (.tmp 16) rfl b (off + k * 2) rfl [.int .i64 j, .string ⟨t.toArray⟩] _ HR.out Tryz.underlying96 rfl infoPc ?_))
        go_roundw
        case rel => exact ⟨k + 1, by omega, by go_num, HX.out, by rw [HS.out, HV.out, app_mk], by rw [HS.out, HV.out, List.length_append]; omega⟩
        case measure => simp [intOf]; omega
      have HV : Hid ((if (j, t).1 = 1 then cur else if (j, t).1 = 2 then per else if (j, t).1 = 3 then min else (j, t).2) = t) := Lib.hid (by simp only; rw [if_neg h1, if_neg h2, if_neg h3])
      have hb1 : (j == 1) = false := by simpa using h1
      have hb2 : (j == 2) = false := by simpa using h2
      have hb3 : (j == 3) = false := by simpa using h3
      clear h1 h2 h3
      go_wp2_with (first | (refine wpList_load_mid rfl 96 (.tmp 16) rfl b (off + k * 2) rfl [.int .i64 j, .string ⟨t.toArray⟩] _ HR.out Tryz.underlying96 rfl infoPc ?_))
      go_roundw
      case rel => exact ⟨k + 1, by omega, by go_num, HX.out, by rw [HS.out, HV.out, app_mk], by rw [HS.out, HV.out, List.length_append]; omega⟩
      case measure => simp [intOf]; omega
    · have e : k = l.length := by omega
      subst e
      rw [List.take_length]
      go_wp2
      go_ret
      exact ⟨rfl, hx⟩
end Go.Proofs.YtdkjkbbibdppoaaGreatDoor.Pat
