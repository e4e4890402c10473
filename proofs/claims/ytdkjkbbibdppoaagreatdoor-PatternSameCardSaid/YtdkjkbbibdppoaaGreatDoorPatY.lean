/- Patterns of numbers, plain laws: the document's own texts are read; a text without a second half, and that with the minus written out. No program. -/
import Derived.Test.YtdkjkbbibdppoaaGreatDoorPatX
import Derived.Test.YtdkjkbbibdppoaaGreatDoorPatT
namespace Go.Proofs.YtdkjkbbibdppoaaGreatDoor.Pat
open Go.RowKit Utf All Small Strs EncC
set_option linter.unusedVariables false
set_option linter.unusedSimpArgs false

def tblC : List (List Int) := [[97], [164], [37], [45], [39, 35, 39], [39, 39], [160], [101, 769], [39, 46, 59, 39], [120, 39, 121, 39]]
theorem tbl_all : ∀ j : Fin 10, tblS.getD j.val [] = (tblC.getD j.val []).flatMap encB ∧ (tblC.getD j.val []).all mayC = true ∧ gd false (tblC.getD j.val []) = true := by decide +kernel
def oneC (x : Int) : List Int := tblC.getD (aroundF x 10).toNat []
theorem one_all (x : Int) : oneS x = (oneC x).flatMap encB ∧ (oneC x).all mayC = true ∧ gd false (oneC x) = true := by
  have h := aroundF_bd x 10 (by omega)
  exact tbl_all ⟨(aroundF x 10).toNat, by omega⟩
def signC (xs : List Int) : List Int := (xs.take 5).flatMap oneC
theorem sign_enc (xs : List Int) : signF xs = (signC xs).flatMap encB := by
  unfold signF signC
  induction xs.take 5 with
  | nil => rfl
  | cons x r ih => rw [List.flatMap_cons, List.flatMap_cons, List.flatMap_append, ih, (one_all x).1]
theorem sign_may (xs : List Int) : ∀ c ∈ signC xs, mayC c = true := by
  intro c hc
  obtain ⟨x, _, hx⟩ := List.mem_flatMap.1 hc
  exact List.all_eq_true.1 (one_all x).2.1 c hx
theorem sign_gd (xs : List Int) : gd false (signC xs) = true := gd_flat oneC _ fun x _ => (one_all x).2.2
def tokOf (l : List Int) : List Pc := (tokS false false l).getD []
theorem tok_of {l : List Int} (h : gd false l = true) : tokS false false l = some (tokOf l) ∧ low (tokOf l) := by
  obtain ⟨t, ht, hl⟩ := (gd_tok l false).1 h
  have : tokOf l = t := by unfold tokOf; rw [ht]; rfl
  rw [this]; exact ⟨ht, hl⟩
def numTok (l : List Int) : List Pc := l.map fun c => (4, encB c)
theorem tok_num_app : ∀ (xs ys : List Int), isNum xs = true → tokS false false (xs ++ ys) = (tokS false false ys).map (numTok xs ++ ·)
  | [], ys, _ => by simp [numTok]
  | c :: r, ys, h => by
    unfold isNum at h
    rw [List.all_cons, Bool.and_eq_true, decide_eq_true_eq] at h
    have hk := kind_num h.1
    have h39 : c ≠ 39 := by omega
    rw [List.cons_append, tokS, if_neg h39, hk]
    simp only [Bool.false_eq_true, if_false]
    rw [if_neg (by decide), tok_num_app r ys h.2, cons_app]; rfl
theorem num_kind (xs : List Int) : (numTok xs).all (isK 4) = true := by
  rw [List.all_eq_true]
  intro p hp
  obtain ⟨c, _, rfl⟩ := List.mem_map.1 hp
  rfl
/-! ### the number -/
def toC (l : List UInt8) : List Int := l.map fun b => (b.toNat : Int)
def coreOk (z p q a b : Nat) : Bool := isNum (toC (coreT z p q a b)) && decide (coreT z p q a b ≠ []) && (match numP (coreT z p q a b) with | some (_, s) => s | none => false)
theorem core_all : (List.range 7).all (fun z => (List.range 5).all fun p => (List.range 5).all fun q => (List.range 4).all fun a => (List.range 4).all fun b => coreOk z p q a b) = true := by decide +kernel
theorem core_of {z p q a b : Nat} (hz : z < 7) (hp : p < 5) (hq : q < 5) (ha : a < 4) (hb : b < 4) : isNum (toC (coreT z p q a b)) = true ∧ coreT z p q a b ≠ [] ∧ ∃ n, numP (coreT z p q a b) = some (n, true) := by
  have h1 := List.all_eq_true.1 core_all z (List.mem_range.2 hz)
  have h2 := List.all_eq_true.1 h1 p (List.mem_range.2 hp)
  have h3 := List.all_eq_true.1 h2 q (List.mem_range.2 hq)
  have h4 := List.all_eq_true.1 h3 a (List.mem_range.2 ha)
  have h5 := List.all_eq_true.1 h4 b (List.mem_range.2 hb)
  unfold coreOk at h5
  rw [Bool.and_eq_true, Bool.and_eq_true, decide_eq_true_eq] at h5
  refine ⟨h5.1.1, h5.1.2, ?_⟩
  have h6 := h5.2
  split at h6
  · rename_i n s e
    subst h6
    exact ⟨n, e⟩
  · cases h6
theorem enc_num {c : Int} (h : c = 35 ∨ c = 48 ∨ c = 44 ∨ c = 46) : mayC c = true ∧ encB c = [UInt8.ofNat c.toNat] := by
  rcases h with rfl | rfl | rfl | rfl <;> decide
theorem toC_enc : ∀ (l : List UInt8), isNum (toC l) = true → (toC l).flatMap encB = l ∧ (∀ c ∈ toC l, mayC c = true) ∧ textOf (numTok (toC l)) = l
  | [], _ => ⟨rfl, by simp [toC], rfl⟩
  | b :: l, h => by
    have h' : isNum ((b.toNat : Int) :: toC l) = true := h
    unfold isNum at h'
    rw [List.all_cons, Bool.and_eq_true, decide_eq_true_eq] at h'
    obtain ⟨h1, h2, h3⟩ := toC_enc l h'.2
    obtain ⟨hm, he⟩ := enc_num h'.1
    have hb : encB (b.toNat : Int) = [b] := by rw [he]; simp
    refine ⟨?_, ?_, ?_⟩
    · show ((b.toNat : Int) :: toC l).flatMap encB = _
      rw [List.flatMap_cons, h1, hb]; rfl
    · intro c hc
      rcases List.mem_cons.1 (show c ∈ (b.toNat : Int) :: toC l from hc) with rfl | hc
      · exact hm
      · exact h2 c hc
    · show textOf ((4, encB (b.toNat : Int)) :: numTok (toC l)) = _
      have e : ∀ (p : Pc) (m : List Pc), textOf (p :: m) = p.2 ++ textOf m := fun _ _ => rfl
      rw [e, h3, hb]; rfl
/-! ### a whole text -/
def coreG (g : GG) : List UInt8 := coreT (nat g.zeros 7) (nat g.prim 5) (nat g.sec 5) (nat g.minf 4) (nat g.more 4)
theorem nat_lt (x : Int) (m : Nat) (hm : 1 ≤ m) : nat x m < m := by
  have := aroundF_bd x m (by omega)
  unfold nat; omega
theorem coreG_of (g : GG) : isNum (toC (coreG g)) = true ∧ coreG g ≠ [] ∧ ∃ n, numP (coreG g) = some (n, true) := core_of (nat_lt _ 7 (by omega)) (nat_lt _ 5 (by omega)) (nat_lt _ 5 (by omega)) (nat_lt _ 4 (by omega)) (nat_lt _ 4 (by omega))
def numG (g : GG) : Nums := match numP (coreG g) with | some (n, _) => n | none => zeroN
theorem numG_of (g : GG) : numP (coreG g) = some (numG g, true) := by
  obtain ⟨n, hn⟩ := (coreG_of g).2.2
  unfold numG; rw [hn]
def firstC (g : GG) : List Int := signC g.pre ++ (toC (coreG g) ++ signC g.suf)
def firstL (g : GG) : List Pc := tokOf (signC g.pre) ++ numTok (toC (coreG g)) ++ tokOf (signC g.suf)
theorem num_noQ {l : List Int} (h : isNum l = true) (h0 : l ≠ []) (ys : List Int) : noQ (l ++ ys) = true := by
  cases l with
  | nil => exact absurd rfl h0
  | cons c r =>
    unfold isNum at h
    rw [List.all_cons, Bool.and_eq_true, decide_eq_true_eq] at h
    have : c ≠ 39 := by omega
    simpa [noQ] using this
theorem toC_ne {l : List UInt8} (h : l ≠ []) : toC l ≠ [] := by
  cases l with
  | nil => exact absurd rfl h
  | cons b r => simp [toC]
theorem first_tok (g : GG) (rest : List Int) (hr : noQ rest = true) : tokS false false (firstC g ++ rest) = (tokS false false rest).map (firstL g ++ ·) := by
  obtain ⟨h1, h2, _⟩ := coreG_of g
  have e : firstC g ++ rest = signC g.pre ++ (toC (coreG g) ++ (signC g.suf ++ rest)) := by unfold firstC; simp
  rw [e, tokS_app _ _ _ _ _ (tok_of (sign_gd g.pre)).1 (num_noQ h1 (toC_ne h2) _), tok_num_app _ _ h1, tokS_app _ _ _ _ _ (tok_of (sign_gd g.suf)).1 hr, map_app, map_app]
  unfold firstL
  first
    | rfl
    | (congr 1; funext m; simp)
theorem first_may (g : GG) : ∀ c ∈ firstC g, mayC c = true := by
  intro c hc
  unfold firstC at hc
  rcases List.mem_append.1 hc with hc | hc
  · exact sign_may _ c hc
  · rcases List.mem_append.1 hc with hc | hc
    · exact (toC_enc _ (coreG_of g).1).2.1 c hc
    · exact sign_may _ c hc
theorem first_enc (g : GG) : (firstC g).flatMap encB = signF g.pre ++ coreG g ++ signF g.suf := by
  unfold firstC
  rw [List.flatMap_append, List.flatMap_append, (toC_enc _ (coreG_of g).1).1, ← sign_enc, ← sign_enc]; simp
theorem num_ne (g : GG) : numTok (toC (coreG g)) ≠ [] := by
  have := toC_ne (coreG_of g).2.1
  intro e
  exact this (by simpa [numTok] using e)
def ptOf (g : GG) : Pt := if g.two then ⟨joinF (tokOf (signC g.pre)), joinF (tokOf (signC g.suf)), joinF (tokOf (signC g.npre)), joinF (tokOf (signC g.nsuf)), numG g⟩
  else ⟨joinF (tokOf (signC g.pre)), joinF (tokOf (signC g.suf)), (3, []) :: joinF (tokOf (signC g.pre)), joinF (tokOf (signC g.suf)), numG g⟩
theorem chars_of (xs : List Int) (h : ∀ x ∈ xs, mayC x = true) : charsL (xs.flatMap encB) = xs := by
  have := chars_encs xs [] h
  rw [List.append_nil] at this
  rw [this]; simp [charsL, pieces_nil]
theorem parse_text (g : GG) : parseF (textF g) = .ok (ptOf g) := by
  have hN := numG_of g
  have hT := (toC_enc _ (coreG_of g).1).2.2
  cases h2 : g.two
  · have e : textF g = (firstC g).flatMap encB := by rw [first_enc]; unfold textF coreG; rw [h2]; simp
    unfold parseF tokL tokF
    rw [e, chars_of _ (first_may g)]
    have := first_tok g [] rfl
    rw [List.append_nil] at this
    rw [this]
    show parseT (firstL g ++ []) = _
    rw [List.append_nil, firstL, parse_one _ _ _ (tok_of (sign_gd g.pre)).2 (num_kind _) (num_ne g) (tok_of (sign_gd g.suf)).2 (numG g) (by rw [hT]; exact hN)]
    unfold ptOf; rw [h2]; rfl
  · have e : textF g = (firstC g ++ 59 :: (signC g.npre ++ ([48] ++ signC g.nsuf))).flatMap encB := by
      rw [List.flatMap_append, first_enc, List.flatMap_cons, List.flatMap_append, List.flatMap_append, ← sign_enc, ← sign_enc]
      unfold textF coreG; rw [h2]
      have e1 : encB 59 = [59] := by decide
      have e2 : ([48] : List Int).flatMap encB = [48] := by decide
      rw [e1, e2]; simp
    have hm : ∀ x ∈ firstC g ++ 59 :: (signC g.npre ++ ([48] ++ signC g.nsuf)), mayC x = true := by
      intro x hx
      simp only [List.mem_append, List.mem_cons, List.not_mem_nil, or_false] at hx
      rcases hx with hx | rfl | hx | rfl | hx
      · exact first_may g x hx
      · decide
      · exact sign_may _ x hx
      · decide
      · exact sign_may _ x hx
    unfold parseF tokL tokF
    rw [e, chars_of _ hm, first_tok g _ rfl, tokS, if_neg (by decide)]
    simp only [Bool.false_eq_true, if_false]
    rw [if_neg (by decide), tokS_app _ _ _ _ _ (tok_of (sign_gd g.npre)).1 rfl, tok_num_app [48] _ rfl, (tok_of (sign_gd g.nsuf)).1]
    show parseT (firstL g ++ (kindL 59, encB 59) :: (tokOf (signC g.npre) ++ (numTok [48] ++ tokOf (signC g.nsuf)))) = _
    have e3 : tokOf (signC g.npre) ++ (numTok [48] ++ tokOf (signC g.nsuf)) = tokOf (signC g.npre) ++ numTok [48] ++ tokOf (signC g.nsuf) := by simp
    rw [e3, firstL, parse_two _ _ _ _ _ _ (kindL 59, encB 59) (by decide) (tok_of (sign_gd g.pre)).2 (num_kind _) (num_ne g) (tok_of (sign_gd g.suf)).2 (numG g) (by rw [hT]; exact hN)
      (tok_of (sign_gd g.npre)).2 (num_kind _) (by simp [numTok]) (tok_of (sign_gd g.nsuf)).2 ⟨0, 0, 1, 0, 0⟩ (by kernel_rfl)]
    unfold ptOf; rw [h2]; rfl
theorem parse_twice (g : GG) (h2 : g.two = false) : parseF (textF g ++ [59, 45] ++ textF g) = .ok (ptOf g) := by
  have hN := numG_of g
  have hT := (toC_enc _ (coreG_of g).1).2.2
  have e0 : textF g = (firstC g).flatMap encB := by rw [first_enc]; unfold textF coreG; rw [h2]; simp
  have e : textF g ++ [59, 45] ++ textF g = (firstC g ++ 59 :: 45 :: firstC g).flatMap encB := by
    rw [List.flatMap_append, List.flatMap_cons, List.flatMap_cons, ← e0]
    have e1 : encB 59 = [59] := by decide
    have e2 : encB 45 = [45] := by decide
    rw [e1, e2]; simp
  have hm : ∀ x ∈ firstC g ++ 59 :: 45 :: firstC g, mayC x = true := by
    intro x hx
    simp only [List.mem_append, List.mem_cons] at hx
    rcases hx with hx | rfl | rfl | hx
    · exact first_may g x hx
    · decide
    · decide
    · exact first_may g x hx
  have ht := first_tok g [] rfl
  rw [List.append_nil] at ht
  unfold parseF tokL tokF
  rw [e, chars_of _ hm, first_tok g _ rfl, tokS, if_neg (by decide)]
  simp only [Bool.false_eq_true, if_false]
  rw [if_neg (by decide), tokS, if_neg (by decide)]
  simp only [Bool.false_eq_true, if_false]
  rw [if_neg (by decide), ht]
  show parseT (firstL g ++ (kindL 59, encB 59) :: (kindL 45, encB 45) :: (firstL g ++ [])) = _
  have e3 : (kindL 45, encB 45) :: (firstL g ++ []) = ((kindL 45, encB 45) :: tokOf (signC g.pre)) ++ numTok (toC (coreG g)) ++ tokOf (signC g.suf) := by unfold firstL; simp
  have hlow : low ((kindL 45, encB 45) :: tokOf (signC g.pre)) := low_cons ⟨by decide, by decide⟩ (tok_of (sign_gd g.pre)).2
  have hne : ((kindL 45, encB 45) : Pc).1 ≠ 0 := by decide
  rw [e3]
  conv => lhs; rw [firstL]
  rw [parse_two _ _ _ _ _ _ (kindL 59, encB 59) (by decide) (tok_of (sign_gd g.pre)).2 (num_kind _) (num_ne g) (tok_of (sign_gd g.suf)).2 (numG g) (by rw [hT]; exact hN)
    hlow (num_kind _) (num_ne g) (tok_of (sign_gd g.suf)).2 (numG g) (by rw [hT]; exact hN), joinF_place _ hne]
  unfold ptOf; rw [h2]; rfl
end Go.Proofs.YtdkjkbbibdppoaaGreatDoor.Pat
