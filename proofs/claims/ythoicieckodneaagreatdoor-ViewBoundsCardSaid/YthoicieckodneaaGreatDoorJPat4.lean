/- Joined by wip/join.py: PatX PatY PatZ PRef PSm POpen PRes. -/
import Derived.Test.YthoicieckodneaaGreatDoorJPat3
import Derived.Deep.DeepCutAuto
import Derived.Deep.RegionHeld3
import Derived.Deep.RegionWith
import Derived.Laws.StructEq
import Derived.Deep.MidRow
import Derived.ChangeSlices
import Derived.WideShapes
import Derived.RowKit
import Derived.Deep.SlicePairs
/- The document's own making of patterns' texts: signs, Text. (Printed by wip/gen/text.py.) -/
namespace Go.Proofs.YthoicieckodneaaGreatDoor.Pat
open Go.RowKit Utf All Small Strs Build EncC
set_option linter.unusedVariables false
set_option linter.unusedSimpArgs false

def tblS : List (List UInt8) := [[97], [194, 164], [37], [45], [39, 35, 39], [39, 39], [194, 160], [101, 204, 129], [39, 46, 59, 39], [120, 39, 121, 39]]
def oneS (x : Int) : List UInt8 := tblS.getD (aroundF x 10).toNat []
def signF (xs : List Int) : List UInt8 := (xs.take 5).flatMap oneS
theorem tbl_len : ∀ j : Fin 10, (tblS.getD j.val []).length ≤ 4 := by decide
theorem oneS_len (x : Int) : (oneS x).length ≤ 4 := by
  have h := aroundF_bd x 10 (by omega)
  have := tbl_len ⟨(aroundF x 10).toNat, by omega⟩
  exact this
theorem tbl_at (j : Nat) (h : j < 10) : tblS[j]? = some (tblS.getD j []) := by
  have hl : j < tblS.length := h
  rw [List.getD, List.getElem?_eq_getElem hl]; rfl
theorem flat_len (xs : List Int) : (xs.flatMap oneS).length ≤ 4 * xs.length := by
  induction xs with
  | nil => simp
  | cons x r ih => have := oneS_len x; rw [List.flatMap_cons, List.length_append, List.length_cons]; omega
theorem signF_len (xs : List Int) : (signF xs).length ≤ 20 := by
  have h1 := flat_len (xs.take 5)
  have h2 : (xs.take 5).length ≤ 5 := by simp; omega
  unfold signF; omega
theorem one_snoc {xs : List Int} {k : Nat} (hk : k < xs.length) : (xs.take (k + 1)).flatMap oneS = (xs.take k).flatMap oneS ++ oneS xs[k] := by
  rw [List.take_succ_eq_append_getElem hk, List.flatMap_append]; simp

/-! ### Text -/
/-- the number's signs, from the i-th on -/
def numT (z p q n : Nat) : Nat → List UInt8
  | 0 => []
  | i + 1 => (if i + 1 < n ∧ (i + 1 = p ∨ (0 < p ∧ 0 < q ∧ i + 1 = p + q)) then [44] else []) ++ (if i + 1 ≤ z then [48] else [35]) ++ numT z p q n i
theorem numT_len (z p q n : Nat) : ∀ i, (numT z p q n i).length ≤ 2 * i
  | 0 => by simp [numT]
  | i + 1 => by
    have := numT_len z p q n i
    rw [numT, List.length_append, List.length_append]
    split <;> split <;> simp <;> omega
def numN' (z p q : Nat) : Nat := max z (p + q + 1)
def fracT (a b : Nat) : List UInt8 := if 0 < a + b then 46 :: (List.replicate a 48 ++ List.replicate b 35) else []
def coreT (z p q a b : Nat) : List UInt8 := numT z p q (numN' z p q) (numN' z p q) ++ fracT a b
/-- what a pattern's text is made of -/
structure GG where
  pre : List Int
  suf : List Int
  two : Bool
  npre : List Int
  nsuf : List Int
  zeros : Int
  prim : Int
  sec : Int
  minf : Int
  more : Int
def nat (x m : Int) : Nat := (aroundF x m).toNat
def textF (g : GG) : List UInt8 := signF g.pre ++ coreT (nat g.zeros 7) (nat g.prim 5) (nat g.sec 5) (nat g.minf 4) (nat g.more 4) ++ signF g.suf ++ (if g.two then 59 :: (signF g.npre ++ [48] ++ signF g.nsuf) else [])
theorem str1 (l : List UInt8) (x : UInt8) : (⟨l.toArray⟩ : ByteArray) ++ ⟨#[x]⟩ = ⟨(l ++ ([] ++ [x])).toArray⟩ := app_mk l [x]
theorem str2 (l : List UInt8) (x y : UInt8) : (⟨l.toArray⟩ : ByteArray) ++ ⟨#[x]⟩ ++ ⟨#[y]⟩ = ⟨(l ++ ([x] ++ [y])).toArray⟩ := by
  refine bytes_ext ?_
  simp
theorem str4 (l m r : List UInt8) : (⟨l.toArray⟩ : ByteArray) ++ ⟨#[59]⟩ ++ ⟨m.toArray⟩ ++ ⟨#[48]⟩ ++ ⟨r.toArray⟩ = ⟨(l ++ [59] ++ m ++ [48] ++ r).toArray⟩ := by
  refine bytes_ext ?_
  simp
theorem ext3 (x : UInt8) : ∀ a : Nat, a < 4 → (⟨#[x, x, x]⟩ : ByteArray).extract 0 a = ⟨(List.replicate a x).toArray⟩ := by
  intro a ha
  match a, ha with
  | 0, _ => rfl
  | 1, _ => rfl
  | 2, _ => rfl
  | 3, _ => rfl
theorem frac_mk (l : List UInt8) (a b : Nat) (ha : a < 4) (hb : b < 4) : (⟨l.toArray⟩ : ByteArray) ++ ⟨#[46]⟩ ++ (⟨#[48, 48, 48]⟩ : ByteArray).extract 0 a ++ (⟨#[35, 35, 35]⟩ : ByteArray).extract 0 b = ⟨(l ++ 46 :: (List.replicate a 48 ++ List.replicate b 35)).toArray⟩ := by
  rw [ext3 48 a ha, ext3 35 b hb]
  refine bytes_ext ?_
  simp
def ggV (A B C D : Option Addr) (c d a b : Nat) (g : GG) : List Value := [.slice A g.pre.length c, .slice B g.suf.length d, .bool g.two, .slice C g.npre.length a, .slice D g.nsuf.length b, .int .i64 g.zeros, .int .i64 g.prim, .int .i64 g.sec, .int .i64 g.minf, .int .i64 g.more]
def i64 (x : Int) : Prop := -9223372036854775808 ≤ x ∧ x ≤ 9223372036854775807
structure GgR (w : World) (A B C D : Option Addr) (g : GG) : Prop where
  rA : Row w A (g.pre.map (Value.int .i64))
  rB : Row w B (g.suf.map (Value.int .i64))
  rC : Row w C (g.npre.map (Value.int .i64))
  rD : Row w D (g.nsuf.map (Value.int .i64))
  bA : ∀ x ∈ g.pre, i64 x
  bB : ∀ x ∈ g.suf, i64 x
  bC : ∀ x ∈ g.npre, i64 x
  bD : ∀ x ∈ g.nsuf, i64 x
  nums : i64 g.zeros ∧ i64 g.prim ∧ i64 g.sec ∧ i64 g.minf ∧ i64 g.more
theorem GgR.ext {w w' : World} {A B C D : Option Addr} {g : GG} (h : GgR w A B C D g) (hx : Ext w w') : GgR w' A B C D g :=
  ⟨h.rA.below hx (Nat.le_refl _), h.rB.below hx (Nat.le_refl _), h.rC.below hx (Nat.le_refl _), h.rD.below hx (Nat.le_refl _), h.bA, h.bB, h.bC, h.bD, h.nums⟩
theorem nat_of (x m : Int) (hm : 1 ≤ m) : ∃ j : Nat, (j : Int) < m ∧ aroundF x m = j ∧ nat x m = j := by
  have := aroundF_bd x m hm
  exact ⟨(aroundF x m).toNat, by omega, by omega, rfl⟩
end Go.Proofs.YthoicieckodneaaGreatDoor.Pat

/- Patterns of numbers, plain laws: the document's own texts are read; a text without a second half, and that with the minus written out. No program. -/
namespace Go.Proofs.YthoicieckodneaaGreatDoor.Pat
open Go.RowKit Utf All Small Strs EncC
set_option linter.unusedVariables false
set_option linter.unusedSimpArgs false

def tblC : List (List Int) := [[97], [164], [37], [45], [39, 35, 39], [39, 39], [160], [101, 769], [39, 46, 59, 39], [120, 39, 121, 39]]
theorem tbl_all : ∀ j : Fin 10, tblS.getD j.val [] = (tblC.getD j.val []).flatMap encB ∧ (tblC.getD j.val []).all mayC = true ∧ gd false (tblC.getD j.val []) = true := by decide +kernel
def oneC (x : Int) : List Int := tblC.getD (aroundF x 10).toNat []
theorem one_all (x : Int) : oneS x = (oneC x).flatMap encB ∧ (oneC x).all mayC = true ∧ gd false (oneC x) = true := by
  have h := aroundF_bd x 10 (by omega)
  exact tbl_all ⟨(aroundF x 10).toNat, by omega⟩
def signC (xs : List Int) : List Int := (xs.take 5).flatMap oneC
theorem sign_enc (xs : List Int) : signF xs = (signC xs).flatMap encB := by
  unfold signF signC
  induction xs.take 5 with
  | nil => rfl
  | cons x r ih => rw [List.flatMap_cons, List.flatMap_cons, List.flatMap_append, ih, (one_all x).1]
theorem sign_may (xs : List Int) : ∀ c ∈ signC xs, mayC c = true := by
  intro c hc
  obtain ⟨x, _, hx⟩ := List.mem_flatMap.1 hc
  exact List.all_eq_true.1 (one_all x).2.1 c hx
theorem sign_gd (xs : List Int) : gd false (signC xs) = true := gd_flat oneC _ fun x _ => (one_all x).2.2
def tokOf (l : List Int) : List Pc := (tokS false false l).getD []
theorem tok_of {l : List Int} (h : gd false l = true) : tokS false false l = some (tokOf l) ∧ low (tokOf l) := by
  obtain ⟨t, ht, hl⟩ := (gd_tok l false).1 h
  have : tokOf l = t := by unfold tokOf; rw [ht]; rfl
  rw [this]; exact ⟨ht, hl⟩
def numTok (l : List Int) : List Pc := l.map fun c => (4, encB c)
theorem tok_num_app : ∀ (xs ys : List Int), isNum xs = true → tokS false false (xs ++ ys) = (tokS false false ys).map (numTok xs ++ ·)
  | [], ys, _ => by simp [numTok]
  | c :: r, ys, h => by
    unfold isNum at h
    rw [List.all_cons, Bool.and_eq_true, decide_eq_true_eq] at h
    have hk := kind_num h.1
    have h39 : c ≠ 39 := by omega
    rw [List.cons_append, tokS, if_neg h39, hk]
    simp only [Bool.false_eq_true, if_false]
    rw [if_neg (by decide), tok_num_app r ys h.2, cons_app]; rfl
theorem num_kind (xs : List Int) : (numTok xs).all (isK 4) = true := by
  rw [List.all_eq_true]
  intro p hp
  obtain ⟨c, _, rfl⟩ := List.mem_map.1 hp
  rfl
/-! ### the number -/
def toC (l : List UInt8) : List Int := l.map fun b => (b.toNat : Int)
def coreOk (z p q a b : Nat) : Bool := isNum (toC (coreT z p q a b)) && decide (coreT z p q a b ≠ []) && (match numP (coreT z p q a b) with | some (_, s) => s | none => false)
theorem core_all : (List.range 7).all (fun z => (List.range 5).all fun p => (List.range 5).all fun q => (List.range 4).all fun a => (List.range 4).all fun b => coreOk z p q a b) = true := by decide +kernel
theorem core_of {z p q a b : Nat} (hz : z < 7) (hp : p < 5) (hq : q < 5) (ha : a < 4) (hb : b < 4) : isNum (toC (coreT z p q a b)) = true ∧ coreT z p q a b ≠ [] ∧ ∃ n, numP (coreT z p q a b) = some (n, true) := by
  have h1 := List.all_eq_true.1 core_all z (List.mem_range.2 hz)
  have h2 := List.all_eq_true.1 h1 p (List.mem_range.2 hp)
  have h3 := List.all_eq_true.1 h2 q (List.mem_range.2 hq)
  have h4 := List.all_eq_true.1 h3 a (List.mem_range.2 ha)
  have h5 := List.all_eq_true.1 h4 b (List.mem_range.2 hb)
  unfold coreOk at h5
  rw [Bool.and_eq_true, Bool.and_eq_true, decide_eq_true_eq] at h5
  refine ⟨h5.1.1, h5.1.2, ?_⟩
  have h6 := h5.2
  split at h6
  · rename_i n s e
    subst h6
    exact ⟨n, e⟩
  · cases h6
theorem enc_num {c : Int} (h : c = 35 ∨ c = 48 ∨ c = 44 ∨ c = 46) : mayC c = true ∧ encB c = [UInt8.ofNat c.toNat] := by
  rcases h with rfl | rfl | rfl | rfl <;> decide
theorem toC_enc : ∀ (l : List UInt8), isNum (toC l) = true → (toC l).flatMap encB = l ∧ (∀ c ∈ toC l, mayC c = true) ∧ textOf (numTok (toC l)) = l
  | [], _ => ⟨rfl, by simp [toC], rfl⟩
  | b :: l, h => by
    have h' : isNum ((b.toNat : Int) :: toC l) = true := h
    unfold isNum at h'
    rw [List.all_cons, Bool.and_eq_true, decide_eq_true_eq] at h'
    obtain ⟨h1, h2, h3⟩ := toC_enc l h'.2
    obtain ⟨hm, he⟩ := enc_num h'.1
    have hb : encB (b.toNat : Int) = [b] := by rw [he]; simp
    refine ⟨?_, ?_, ?_⟩
    · show ((b.toNat : Int) :: toC l).flatMap encB = _
      rw [List.flatMap_cons, h1, hb]; rfl
    · intro c hc
      rcases List.mem_cons.1 (show c ∈ (b.toNat : Int) :: toC l from hc) with rfl | hc
      · exact hm
      · exact h2 c hc
    · show textOf ((4, encB (b.toNat : Int)) :: numTok (toC l)) = _
      have e : ∀ (p : Pc) (m : List Pc), textOf (p :: m) = p.2 ++ textOf m := fun _ _ => rfl
      rw [e, h3, hb]; rfl
/-! ### a whole text -/
def coreG (g : GG) : List UInt8 := coreT (nat g.zeros 7) (nat g.prim 5) (nat g.sec 5) (nat g.minf 4) (nat g.more 4)
theorem nat_lt (x : Int) (m : Nat) (hm : 1 ≤ m) : nat x m < m := by
  have := aroundF_bd x m (by omega)
  unfold nat; omega
theorem coreG_of (g : GG) : isNum (toC (coreG g)) = true ∧ coreG g ≠ [] ∧ ∃ n, numP (coreG g) = some (n, true) := core_of (nat_lt _ 7 (by omega)) (nat_lt _ 5 (by omega)) (nat_lt _ 5 (by omega)) (nat_lt _ 4 (by omega)) (nat_lt _ 4 (by omega))
def numG (g : GG) : Nums := match numP (coreG g) with | some (n, _) => n | none => zeroN
theorem numG_of (g : GG) : numP (coreG g) = some (numG g, true) := by
  obtain ⟨n, hn⟩ := (coreG_of g).2.2
  unfold numG; rw [hn]
def firstC (g : GG) : List Int := signC g.pre ++ (toC (coreG g) ++ signC g.suf)
def firstL (g : GG) : List Pc := tokOf (signC g.pre) ++ numTok (toC (coreG g)) ++ tokOf (signC g.suf)
theorem num_noQ {l : List Int} (h : isNum l = true) (h0 : l ≠ []) (ys : List Int) : noQ (l ++ ys) = true := by
  cases l with
  | nil => exact absurd rfl h0
  | cons c r =>
    unfold isNum at h
    rw [List.all_cons, Bool.and_eq_true, decide_eq_true_eq] at h
    have : c ≠ 39 := by omega
    simpa [noQ] using this
theorem toC_ne {l : List UInt8} (h : l ≠ []) : toC l ≠ [] := by
  cases l with
  | nil => exact absurd rfl h
  | cons b r => simp [toC]
theorem first_tok (g : GG) (rest : List Int) (hr : noQ rest = true) : tokS false false (firstC g ++ rest) = (tokS false false rest).map (firstL g ++ ·) := by
  obtain ⟨h1, h2, _⟩ := coreG_of g
  have e : firstC g ++ rest = signC g.pre ++ (toC (coreG g) ++ (signC g.suf ++ rest)) := by unfold firstC; simp
  rw [e, tokS_app _ _ _ _ _ (tok_of (sign_gd g.pre)).1 (num_noQ h1 (toC_ne h2) _), tok_num_app _ _ h1, tokS_app _ _ _ _ _ (tok_of (sign_gd g.suf)).1 hr, map_app, map_app]
  unfold firstL
  first
    | rfl
    | (congr 1; funext m; simp)
theorem first_may (g : GG) : ∀ c ∈ firstC g, mayC c = true := by
  intro c hc
  unfold firstC at hc
  rcases List.mem_append.1 hc with hc | hc
  · exact sign_may _ c hc
  · rcases List.mem_append.1 hc with hc | hc
    · exact (toC_enc _ (coreG_of g).1).2.1 c hc
    · exact sign_may _ c hc
theorem first_enc (g : GG) : (firstC g).flatMap encB = signF g.pre ++ coreG g ++ signF g.suf := by
  unfold firstC
  rw [List.flatMap_append, List.flatMap_append, (toC_enc _ (coreG_of g).1).1, ← sign_enc, ← sign_enc]; simp
theorem num_ne (g : GG) : numTok (toC (coreG g)) ≠ [] := by
  have := toC_ne (coreG_of g).2.1
  intro e
  exact this (by simpa [numTok] using e)
def ptOf (g : GG) : Pt := if g.two then ⟨joinF (tokOf (signC g.pre)), joinF (tokOf (signC g.suf)), joinF (tokOf (signC g.npre)), joinF (tokOf (signC g.nsuf)), numG g⟩
  else ⟨joinF (tokOf (signC g.pre)), joinF (tokOf (signC g.suf)), (3, []) :: joinF (tokOf (signC g.pre)), joinF (tokOf (signC g.suf)), numG g⟩
theorem chars_of (xs : List Int) (h : ∀ x ∈ xs, mayC x = true) : charsL (xs.flatMap encB) = xs := by
  have := chars_encs xs [] h
  rw [List.append_nil] at this
  rw [this]; simp [charsL, pieces_nil]
theorem parse_text (g : GG) : parseF (textF g) = .ok (ptOf g) := by
  have hN := numG_of g
  have hT := (toC_enc _ (coreG_of g).1).2.2
  cases h2 : g.two
  · have e : textF g = (firstC g).flatMap encB := by rw [first_enc]; unfold textF coreG; rw [h2]; simp
    unfold parseF tokL tokF
    rw [e, chars_of _ (first_may g)]
    have := first_tok g [] rfl
    rw [List.append_nil] at this
    rw [this]
    show parseT (firstL g ++ []) = _
    rw [List.append_nil, firstL, parse_one _ _ _ (tok_of (sign_gd g.pre)).2 (num_kind _) (num_ne g) (tok_of (sign_gd g.suf)).2 (numG g) (by rw [hT]; exact hN)]
    unfold ptOf; rw [h2]; rfl
  · have e : textF g = (firstC g ++ 59 :: (signC g.npre ++ ([48] ++ signC g.nsuf))).flatMap encB := by
      rw [List.flatMap_append, first_enc, List.flatMap_cons, List.flatMap_append, List.flatMap_append, ← sign_enc, ← sign_enc]
      unfold textF coreG; rw [h2]
      have e1 : encB 59 = [59] := by decide
      have e2 : ([48] : List Int).flatMap encB = [48] := by decide
      rw [e1, e2]; simp
    have hm : ∀ x ∈ firstC g ++ 59 :: (signC g.npre ++ ([48] ++ signC g.nsuf)), mayC x = true := by
      intro x hx
      simp only [List.mem_append, List.mem_cons, List.not_mem_nil, or_false] at hx
      rcases hx with hx | rfl | hx | rfl | hx
      · exact first_may g x hx
      · decide
      · exact sign_may _ x hx
      · decide
      · exact sign_may _ x hx
    unfold parseF tokL tokF
    rw [e, chars_of _ hm, first_tok g _ rfl, tokS, if_neg (by decide)]
    simp only [Bool.false_eq_true, if_false]
    rw [if_neg (by decide), tokS_app _ _ _ _ _ (tok_of (sign_gd g.npre)).1 rfl, tok_num_app [48] _ rfl, (tok_of (sign_gd g.nsuf)).1]
    show parseT (firstL g ++ (kindL 59, encB 59) :: (tokOf (signC g.npre) ++ (numTok [48] ++ tokOf (signC g.nsuf)))) = _
    have e3 : tokOf (signC g.npre) ++ (numTok [48] ++ tokOf (signC g.nsuf)) = tokOf (signC g.npre) ++ numTok [48] ++ tokOf (signC g.nsuf) := by simp
    rw [e3, firstL, parse_two _ _ _ _ _ _ (kindL 59, encB 59) (by decide) (tok_of (sign_gd g.pre)).2 (num_kind _) (num_ne g) (tok_of (sign_gd g.suf)).2 (numG g) (by rw [hT]; exact hN)
      (tok_of (sign_gd g.npre)).2 (num_kind _) (by simp [numTok]) (tok_of (sign_gd g.nsuf)).2 ⟨0, 0, 1, 0, 0⟩ (by kernel_rfl)]
    unfold ptOf; rw [h2]; rfl
theorem parse_twice (g : GG) (h2 : g.two = false) : parseF (textF g ++ [59, 45] ++ textF g) = .ok (ptOf g) := by
  have hN := numG_of g
  have hT := (toC_enc _ (coreG_of g).1).2.2
  have e0 : textF g = (firstC g).flatMap encB := by rw [first_enc]; unfold textF coreG; rw [h2]; simp
  have e : textF g ++ [59, 45] ++ textF g = (firstC g ++ 59 :: 45 :: firstC g).flatMap encB := by
    rw [List.flatMap_append, List.flatMap_cons, List.flatMap_cons, ← e0]
    have e1 : encB 59 = [59] := by decide
    have e2 : encB 45 = [45] := by decide
    rw [e1, e2]; simp
  have hm : ∀ x ∈ firstC g ++ 59 :: 45 :: firstC g, mayC x = true := by
    intro x hx
    simp only [List.mem_append, List.mem_cons] at hx
    rcases hx with hx | rfl | rfl | hx
    · exact first_may g x hx
    · decide
    · decide
    · exact first_may g x hx
  have ht := first_tok g [] rfl
  rw [List.append_nil] at ht
  unfold parseF tokL tokF
  rw [e, chars_of _ hm, first_tok g _ rfl, tokS, if_neg (by decide)]
  simp only [Bool.false_eq_true, if_false]
  rw [if_neg (by decide), tokS, if_neg (by decide)]
  simp only [Bool.false_eq_true, if_false]
  rw [if_neg (by decide), ht]
  show parseT (firstL g ++ (kindL 59, encB 59) :: (kindL 45, encB 45) :: (firstL g ++ [])) = _
  have e3 : (kindL 45, encB 45) :: (firstL g ++ []) = ((kindL 45, encB 45) :: tokOf (signC g.pre)) ++ numTok (toC (coreG g)) ++ tokOf (signC g.suf) := by unfold firstL; simp
  have hlow : low ((kindL 45, encB 45) :: tokOf (signC g.pre)) := low_cons ⟨by decide, by decide⟩ (tok_of (sign_gd g.pre)).2
  have hne : ((kindL 45, encB 45) : Pc).1 ≠ 0 := by decide
  rw [e3]
  conv => lhs; rw [firstL]
  rw [parse_two _ _ _ _ _ _ (kindL 59, encB 59) (by decide) (tok_of (sign_gd g.pre)).2 (num_kind _) (num_ne g) (tok_of (sign_gd g.suf)).2 (numG g) (by rw [hT]; exact hN)
    hlow (num_kind _) (num_ne g) (tok_of (sign_gd g.suf)).2 (numG g) (by rw [hT]; exact hN), joinF_place _ hne]
  unfold ptOf; rw [h2]; rfl
end Go.Proofs.YthoicieckodneaaGreatDoor.Pat

/- Sizes of the document's own texts and of their patterns (the head of PHalv, for a seat without that law). -/
namespace Go.Proofs.YthoicieckodneaaGreatDoor.Pat
open Go.RowKit Utf All Small Strs Build EncC
set_option linter.unusedVariables false
set_option linter.unusedSimpArgs false

theorem parse_okl {l : List UInt8} {p : Pt} (hp : parseF l = .ok p) (w : World) (hs : l.length ≤ 100000000) :
    Calls Tryz.prog 70 #[.string ⟨l.toArray⟩] w fun e w' => ∃ A c B d C a D b, e = .returned (.tuple #[.agg (patC (.slice A p.pre.length c) (.slice B p.suf.length d) (.slice C p.npre.length a) (.slice D p.nsuf.length b) p.num).toArray, .int .i64 0]) ∧
      Row w' A (pcsV p.pre) ∧ Row w' B (pcsV p.suf) ∧ Row w' C (pcsV p.npre) ∧ Row w' D (pcsV p.nsuf) ∧ Okc A c ∧ Okc B d ∧ Okc C a ∧ Okc D b ∧ Ext w w' :=
  parse_ok (s := ⟨l.toArray⟩) hp w hs
theorem fracT_len (a b : Nat) : (fracT a b).length ≤ 1 + a + b := by
  unfold fracT
  split
  · simp only [List.length_cons, List.length_append, List.length_replicate]; omega
  · simp
theorem textF_len (g : GG) : (textF g).length ≤ 200 := by
  have h1 := signF_len g.pre
  have h2 := signF_len g.suf
  have h3 := signF_len g.npre
  have h4 := signF_len g.nsuf
  have z : nat g.zeros 7 < 7 := nat_lt g.zeros 7 (by omega)
  have p : nat g.prim 5 < 5 := nat_lt g.prim 5 (by omega)
  have q : nat g.sec 5 < 5 := nat_lt g.sec 5 (by omega)
  have a : nat g.minf 4 < 4 := nat_lt g.minf 4 (by omega)
  have b : nat g.more 4 < 4 := nat_lt g.more 4 (by omega)
  have hn : numN' (nat g.zeros 7) (nat g.prim 5) (nat g.sec 5) ≤ 9 := by unfold numN'; omega
  have h5 := numT_len (nat g.zeros 7) (nat g.prim 5) (nat g.sec 5) (numN' (nat g.zeros 7) (nat g.prim 5) (nat g.sec 5)) (numN' (nat g.zeros 7) (nat g.prim 5) (nat g.sec 5))
  have h6 := fracT_len (nat g.minf 4) (nat g.more 4)
  unfold textF coreT
  split <;> simp only [List.length_append, List.length_cons, List.length_nil] <;> omega
theorem tokS_len : ∀ (xs : List Int) (q p : Bool) (l : List Pc), tokS q p xs = some l → l.length ≤ xs.length
  | [], q, p, l, h => by cases q <;> cases p <;> simp [tokS] at h <;> subst h <;> simp
  | c :: r, q, p, l, h => by
    cases p <;> rw [tokS] at h
    · split at h
      · have := tokS_len r q true l h; simp only [List.length_cons]; omega
      · split at h
        · obtain ⟨m, hm, rfl⟩ := Option.map_eq_some_iff.1 h
          have := tokS_len r true false m hm; simp only [List.length_cons]; omega
        · split at h
          · cases h
          · obtain ⟨m, hm, rfl⟩ := Option.map_eq_some_iff.1 h
            have := tokS_len r false false m hm; simp only [List.length_cons]; omega
    · split at h
      · obtain ⟨m, hm, rfl⟩ := Option.map_eq_some_iff.1 h
        have := tokS_len r q false m hm; simp only [List.length_cons]; omega
      · split at h
        · split at h
          · cases h
          · obtain ⟨m, hm, rfl⟩ := Option.map_eq_some_iff.1 h
            have := tokS_len r false false m hm; simp only [List.length_cons]; omega
        · obtain ⟨m, hm, rfl⟩ := Option.map_eq_some_iff.1 h
          have := tokS_len r true false m hm; simp only [List.length_cons]; omega
theorem one_le (x : Int) : (oneC x).length ≤ 4 := by
  have h := aroundF_bd x 10 (by omega)
  have key : ∀ j : Fin 10, (tblC.getD j.val []).length ≤ 4 := by decide
  exact key ⟨(aroundF x 10).toNat, by omega⟩
theorem signC_len (xs : List Int) : (signC xs).length ≤ 20 := by
  have key : ∀ l : List Int, (l.flatMap oneC).length ≤ 4 * l.length := by
    intro l
    induction l with
    | nil => simp
    | cons x r ih => have := one_le x; rw [List.flatMap_cons, List.length_append, List.length_cons]; omega
  have h1 := key (xs.take 5)
  have h2 : (xs.take 5).length ≤ 5 := by simp; omega
  unfold signC; omega
theorem joinTok_len (xs : List Int) : (joinF (tokOf (signC xs))).length ≤ 20 := by
  have h1 := joinF_len (tokOf (signC xs))
  have h2 := tokS_len _ _ _ _ (tok_of (sign_gd xs)).1
  have h3 := signC_len xs
  omega
theorem ptOf_B (g : GG) : (ptOf g).pre.length ≤ 20 ∧ (ptOf g).suf.length ≤ 20 ∧ (ptOf g).npre.length ≤ 21 ∧ (ptOf g).nsuf.length ≤ 20 := by
  have h1 := joinTok_len g.pre
  have h2 := joinTok_len g.suf
  have h3 := joinTok_len g.npre
  have h4 := joinTok_len g.nsuf
  unfold ptOf
  split <;> simp <;> omega
theorem ptOf_PB (g : GG) : PtB (ptOf g) := by
  obtain ⟨h1, h2, h3, h4⟩ := ptOf_B g
  exact ⟨by omega, by omega, by omega, by omega⟩
end Go.Proofs.YthoicieckodneaaGreatDoor.Pat

/- The document's own reading of patterns: what a character is; pieces of a text. -/
namespace Go.Proofs.YthoicieckodneaaGreatDoor.Pat
open Go.RowKit Utf All Small Strs Build EncC
set_option linter.unusedVariables false
set_option linter.unusedSimpArgs false

theorem ei_b : EI 30 187 2 24 := ei_of (z := .agg #[.int .i64 0, .string ⟨#[]⟩]) Tryz.underlying30 (by kernel_rfl) rfl (by decide)
/-- is a character one of few bytes? -/
def inL (c : Int) (l : List UInt8) : Bool := l.any fun b => c == (b.toNat : Int)
theorem any_snoc' {c : Int} {l : List UInt8} {k : Nat} (hk : k < l.length) : (l.take (k + 1)).any (fun b => c == (b.toNat : Int)) = ((l.take k).any (fun b => c == (b.toNat : Int)) || (c == (l[k].toNat : Int))) := by
  rw [List.take_succ_eq_append_getElem hk, List.any_append]; simp
set_option maxHeartbeats 1000000 in
theorem in_ (c : Int) (s : ByteArray) (w : World) (hs : s.size ≤ 100) : Calls Tryz.prog 211 #[.int .i64 c, .string s] w fun e w' => e = .returned (.bool (inL c s.data.toList)) ∧ w = w' := by
  have hlen : s.data.toList.length = s.size := by simp
  go_enter Tryz.func211, Tryz.ntmps211
  go_wp2
  go_loop [5] (fun i => ∃ k : Nat, k ≤ s.size ∧ i = .int .i64 k ∧ Hid ((s.data.toList.take k).any (fun b => c == (b.toNat : Int)) = false)) (fun i => s.size - (intOf i).toNat)
  case atStart => exact ⟨0, Nat.zero_le _, rfl, Lib.hid (by simp)⟩
  case round =>
    obtain ⟨k, hk, rfl, HK⟩ := hrel
    by_cases hlt : k < s.size
    · have hlt2 : k < s.data.toList.length := by omega
      have hsk : s.data.toList[k] = s[k] := by simp; rfl
      have HS := Lib.hid (any_snoc' (c := c) hlt2)
      rw [hsk] at HS
      have hw : wrap64 ((s[k]'hlt).toNat : Int) = ((s[k]'hlt).toNat : Int) := by
        have := (s[k]'hlt).toNat_lt
        unfold wrap64; omega
      have HW := Lib.hid hw
      clear hw
      cases hb : (c == ((s[k]'hlt).toNat : Int))
      · have hb' : (c == wrap64 ((s[k]'hlt).toNat : Int)) = false := by rw [HW.out]; exact hb
        have HB := Lib.hid hb
        clear hb
        go_wp2
        go_round
        case rel => exact ⟨k + 1, by omega, by go_num, Lib.hid (by rw [HS.out, HK.out, HB.out]; rfl)⟩
        case measure => simp [intOf]; omega
      · have hb' : (c == wrap64 ((s[k]'hlt).toNat : Int)) = true := by rw [HW.out]; exact hb
        have HR : Hid (inL c s.data.toList = true) := Lib.hid (by
          unfold inL
          rw [List.any_eq_true]
          exact ⟨s.data.toList[k], List.getElem_mem hlt2, by rw [hsk]; exact hb⟩)
        clear hb
        go_wp2
        go_ret
        exact ⟨by rw [HR.out]; rfl, rfl⟩
    · have e : k = s.size := by omega
      subst e
      have HR : Hid (inL c s.data.toList = false) := Lib.hid (by
        have := HK.out
        rw [List.take_of_length_le (by omega)] at this
        exact this)
      go_wp2
      go_ret
      exact ⟨by rw [HR.out]; rfl, rfl⟩
/-- what a character is, as the document has it -/
def kindR (c : Int) : Int := if kindL c < 0 then 6 else kindL c
theorem inL_signs (c : Int) : inL c [35, 48, 44, 46] = decide (c = 35 ∨ c = 48 ∨ c = 44 ∨ c = 46) := by
  unfold inL
  rw [Bool.eq_iff_iff, decide_eq_true_iff]
  simp
theorem inL_wrong (c : Int) : inL c [49, 50, 51, 52, 53, 54, 55, 56, 57, 64, 42, 43, 69] = decide ((49 ≤ c ∧ c ≤ 57) ∨ c = 64 ∨ c = 42 ∨ c = 43 ∨ c = 69) := by
  unfold inL
  rw [Bool.eq_iff_iff, decide_eq_true_iff]
  simp
  omega
set_option maxHeartbeats 1000000 in
theorem kind_ref (c : Int) (w : World) : Calls Tryz.prog 183 #[.int .i64 c] w fun e w' => e = .returned (.int .i64 (kindR c)) ∧ w = w' := by
  by_cases e1 : c = 164
  · subst e1; go_enter Tryz.func183, Tryz.ntmps183; go_wp2; go_ret; exact ⟨rfl, rfl⟩
  by_cases e2 : c = 37
  · subst e2; go_enter Tryz.func183, Tryz.ntmps183; go_wp2; go_ret; exact ⟨rfl, rfl⟩
  by_cases e3 : c = 45
  · subst e3; go_enter Tryz.func183, Tryz.ntmps183; go_wp2; go_ret; exact ⟨rfl, rfl⟩
  have b1 : (c == 164) = false := by simpa using e1
  have b2 : (c == 37) = false := by simpa using e2
  have b3 : (c == 45) = false := by simpa using e3
  have hA := in_ c ⟨#[35, 48, 44, 46]⟩ w (by decide)
  have hA' : Calls Tryz.prog 211 #[.int .i64 c, .string ⟨#[35, 48, 44, 46]⟩] w fun e w' => e = .returned (.bool (decide (c = 35 ∨ c = 48 ∨ c = 44 ∨ c = 46))) ∧ w = w' := by rw [← inL_signs]; exact hA
  have hB := in_ c ⟨#[49, 50, 51, 52, 53, 54, 55, 56, 57, 64, 42, 43, 69]⟩ w (by decide)
  have hB' : Calls Tryz.prog 211 #[.int .i64 c, .string ⟨#[49, 50, 51, 52, 53, 54, 55, 56, 57, 64, 42, 43, 69]⟩] w fun e w' => e = .returned (.bool (decide ((49 ≤ c ∧ c ≤ 57) ∨ c = 64 ∨ c = 42 ∨ c = 43 ∨ c = 69))) ∧ w = w' := by rw [← inL_wrong]; exact hB
  have HA := Lib.hid hA'
  have HB := Lib.hid hB'
  clear hA hA' hB hB'
  by_cases s1 : c = 35 ∨ c = 48 ∨ c = 44 ∨ c = 46
  · have HK : Hid (kindR c = 4) := Lib.hid (by
      have hk : kindL c = 4 := by unfold kindL; rw [if_neg e1, if_neg e2, if_neg e3, if_neg (by omega), if_pos s1]
      unfold kindR; rw [hk]; rfl)
    rw [decide_eq_true s1] at HA
    clear s1 HB
    go_enter Tryz.func183, Tryz.ntmps183
    go_wp2_with fail
    refine HA.out.mono ?_; rintro e w' ⟨rfl, rfl⟩
    go_wp2
    go_ret
    exact ⟨by rw [HK.out]; rfl, rfl⟩
  rw [decide_eq_false s1] at HA
  by_cases e4 : c = 59
  · subst e4
    clear s1 HB
    go_enter Tryz.func183, Tryz.ntmps183
    go_wp2_with fail
    refine HA.out.mono ?_; rintro e w' ⟨rfl, rfl⟩
    go_wp2
    go_ret
    exact ⟨rfl, rfl⟩
  have b4 : (c == 59) = false := by simpa using e4
  by_cases s2 : (49 ≤ c ∧ c ≤ 57) ∨ c = 64 ∨ c = 42 ∨ c = 43 ∨ c = 69
  · have HK : Hid (kindR c = 6) := Lib.hid (by unfold kindR kindL; rw [if_neg e1, if_neg e2, if_neg e3, if_neg e4, if_neg s1, if_pos s2]; rfl)
    rw [decide_eq_true s2] at HB
    clear s1 s2
    go_enter Tryz.func183, Tryz.ntmps183
    go_wp2_with fail
    refine HA.out.mono ?_; rintro e w' ⟨rfl, rfl⟩
    go_wp2_with fail
    refine HB.out.mono ?_; rintro e w' ⟨rfl, rfl⟩
    go_wp2
    go_ret
    exact ⟨by rw [HK.out]; rfl, rfl⟩
  · have HK : Hid (kindR c = 0) := Lib.hid (by unfold kindR kindL; rw [if_neg e1, if_neg e2, if_neg e3, if_neg e4, if_neg s1, if_neg s2]; rfl)
    rw [decide_eq_false s2] at HB
    clear s1 s2
    go_enter Tryz.func183, Tryz.ntmps183
    go_wp2_with fail
    refine HA.out.mono ?_; rintro e w' ⟨rfl, rfl⟩
    go_wp2_with fail
    refine HB.out.mono ?_; rintro e w' ⟨rfl, rfl⟩
    go_wp2
    go_ret
    exact ⟨by rw [HK.out]; rfl, rfl⟩

def restOf (b : Bool) (xs : List Int) (acc l : List Pc) : Prop := ∃ r, tokS b false xs = some r ∧ acc ++ r = l
theorem rest_quote {b : Bool} {r : List Int} {acc l : List Pc} (h : restOf b (39 :: 39 :: r) acc l) : restOf b r (acc ++ [(0, encB 39)]) l := by
  obtain ⟨t, ht, hl⟩ := h
  rw [tokS_quote, tokS, if_pos rfl] at ht
  obtain ⟨m, hm, rfl⟩ := Option.map_eq_some_iff.1 ht
  exact ⟨m, hm, by simpa using hl⟩
theorem rest_toggle {b : Bool} {r : List Int} {acc l : List Pc} (h : restOf b (39 :: r) acc l) (hn : noQ r = true) : restOf (!b) r acc l := by
  obtain ⟨t, ht, hl⟩ := h
  rw [tokS_quote, tokS_toggle b r (noQ_ne hn)] at ht
  exact ⟨t, ht, hl⟩
theorem rest_in {c : Int} {r : List Int} {acc l : List Pc} (hc : c ≠ 39) (h : restOf true (c :: r) acc l) : restOf true r (acc ++ [(0, encB c)]) l := by
  obtain ⟨t, ht, hl⟩ := h
  rw [tokS, if_neg hc, if_pos rfl] at ht
  obtain ⟨m, hm, rfl⟩ := Option.map_eq_some_iff.1 ht
  exact ⟨m, hm, by simpa using hl⟩
theorem rest_out {c : Int} {r : List Int} {acc l : List Pc} (hc : c ≠ 39) (h : restOf false (c :: r) acc l) : 0 ≤ kindL c ∧ restOf false r (acc ++ [(kindL c, encB c)]) l := by
  obtain ⟨t, ht, hl⟩ := h
  rw [tokS, if_neg hc] at ht
  simp only [Bool.false_eq_true, if_false] at ht
  split at ht
  · cases ht
  · obtain ⟨m, hm, rfl⟩ := Option.map_eq_some_iff.1 ht
    exact ⟨by omega, m, hm, by simpa using hl⟩
theorem rest_end {b : Bool} {acc l : List Pc} (h : restOf b [] acc l) : b = false ∧ acc = l := by
  obtain ⟨t, ht, hl⟩ := h
  cases b <;> simp [tokS] at ht
  subst ht
  exact ⟨rfl, by simpa using hl⟩
theorem str_39 : (⟨(encB 39).toArray⟩ : ByteArray) = ⟨#[39]⟩ := by rw [encB_39]
set_option maxRecDepth 100000 in
set_option maxHeartbeats 4000000 in
theorem tokens_ref (s : ByteArray) (l : List Pc) (w : World) (hs : s.size ≤ 1000000) (ht : tokL s.data.toList = some l) :
    Calls Tryz.prog 161 #[.string s] w fun e w' => ∃ A c, e = .returned (.tuple #[.slice A l.length c, .bool true]) ∧ Row w' A (pcsV l) ∧ l.length ≤ c ∧ Okc A c ∧ Ext w w' := by
  go_enter Tryz.func161, Tryz.ntmps161
  go_wp2_with fail
  refine (ref_all s _ (by omega)).mono ?_; rintro e w1 ⟨X, cX, Y, cY, rfl, hrow, hrow2, hx⟩
  have hbd := charsL_bd s.data.toList
  have hcl := chars_len s
  have HT : Hid (restOf false (charsL s.data.toList) [] l) := Lib.hid ⟨l, ht, rfl⟩
  clear hrow2 ht
  generalize (startsL s.data.toList).length = ny
  generalize validL s.data.toList = vy
  generalize charsL s.data.toList = xs at *
  have HX := Lib.hid hx
  have HBD := Lib.hid hbd
  clear hx hbd
  go_wp2
  go_loopw [7, 8, 9, 10, 11] (fun out q i _ _ wr => ∃ (k : Nat) (acc : List Pc) (b : Bool) (A : Option Addr) (c : Nat), k ≤ xs.length ∧ i = .int .i64 k ∧ q = .bool b ∧ out = .slice A acc.length c ∧ Acc 187 2 w1 wr A c acc.length (pcsV acc) ∧ acc.length ≤ k ∧ Hid (restOf b (xs.drop k) acc l)) (fun _ _ i _ _ _ => xs.length - (intOf i).toNat)
  case atStart => exact ⟨0, [], false, none, 0, Nat.zero_le _, rfl, rfl, rfl, Acc.start _ _ _, Nat.le_refl _, HT⟩
  case round =>
    obtain ⟨k, acc, b, A, c, hk, rfl, rfl, rfl, hacc, hak, HK⟩ := hrel
    by_cases hlt : k < xs.length
    · obtain ⟨bX, oX, rfl, hc⟩ := row_int (hacc.keep hrow) hlt
      have hb := HBD.out _ (List.getElem_mem hlt)
      have HD : Hid (xs.drop k = xs[k] :: xs.drop (k + 1)) := Lib.hid (List.drop_eq_getElem_cons hlt)
      have hbig := hacc.cap
      generalize hv : xs[k] = v at *
      have HV := Lib.hid hv
      clear hv
      obtain ⟨hb0, hb1⟩ := hb
      by_cases hq : v = 39
      · subst hq
        by_cases h2 : k + 1 < xs.length
        · obtain ⟨_, _, e1, hcn⟩ := row_int (hacc.keep hrow) h2
          injection e1 with e1
          injection e1 with e1 e2
          subst e1; subst e2
          have HD2 : Hid (xs.drop (k + 1) = xs[k + 1] :: xs.drop (k + 1 + 1)) := Lib.hid (List.drop_eq_getElem_cons h2)
          generalize hu : xs[k + 1] = u at *
          clear hu
          have hmin : min ((k : Int) + 1) ((xs.length : Int) - 1) = (k : Int) + 1 := by omega
          have hg1 : ((k : Int) + 1) < (xs.length : Int) := by omega
          have hcn' : wr.cell? ⟨bX, oX + (k + 1), none⟩ = some (.int .i64 u) := hcn
          by_cases hq2 : u = 39
          · subst hq2
            have HR : Hid (restOf b (xs.drop (k + 2)) (acc ++ [(0, encB 39)]) l) := Lib.hid (rest_quote (by have := HK.out; rw [HD.out, HD2.out] at this; exact this))
            have hacc2 := hacc.alloc (.cells #[.int .i64 0, .string ⟨#[39]⟩] 187)
            go_wp2_with (at_builtin; refine wp_app ei_b rfl (.tmp 47) (.tmp 49) rfl w1 _ A c acc.length _ rfl hacc [.int .i64 0, .string ⟨#[39]⟩] 1 1 (by rfl) rfl (by simp [Value.oneCell']) (by omega) (by unfold maxLen; omega) ?_; intro A1 c1 w3 hacc3 _ _; clear hacc hacc2)
            refine ⟨?_, by simp [intOf] <;> omega⟩
            exact ⟨k + 2, acc ++ [(0, encB 39)], b, A1, c1, by omega, by go_num, rfl, by simp, by rw [pcsV_app, pcsV_one, str_39]; simpa using hacc3, by simp; omega, HR⟩
          · have hq3 : (u == 39) = false := by simpa using hq2
            have HR : Hid (restOf (!b) (xs.drop (k + 1)) acc l) := Lib.hid (rest_toggle (by have := HK.out; rw [HD.out] at this; exact this) (by rw [HD2.out]; simpa [noQ] using hq2))
            go_wp2_with fail
            refine ⟨?_, by simp [intOf] <;> omega⟩
            exact ⟨k + 1, acc, !b, A, c, by omega, by go_num, rfl, rfl, hacc, by omega, HR⟩
        · have hg1 : ¬ (((k : Int) + 1) < (xs.length : Int)) := by omega
          have HR : Hid (restOf (!b) (xs.drop (k + 1)) acc l) := Lib.hid (rest_toggle (by have := HK.out; rw [HD.out] at this; exact this) (by rw [List.drop_of_length_le (by omega)]; rfl))
          go_wp2_with fail
          refine ⟨?_, by simp [intOf] <;> omega⟩
          exact ⟨k + 1, acc, !b, A, c, by omega, by go_num, rfl, rfl, hacc, by omega, HR⟩
      · have hq1 : (v == 39) = false := by simpa using hq
        cases b
        · obtain ⟨hk0, hR⟩ := rest_out hq (by have := HK.out; rw [HD.out] at this; exact this)
          have HR := Lib.hid hR
          have HKR : Hid (kindR v = kindL v) := Lib.hid (by unfold kindR; rw [if_neg (by omega)])
          have hkb := kindL_bd v
          have hk6 : (kindL v == 6) = false := by simp; omega
          clear hR hk0 hkb
          go_wp2_with fail
          refine (kind_ref v _).mono ?_; rintro e w2 ⟨rfl, rfl⟩; rw [HKR.out]
          go_wp2_with fail
          refine (ref_encode v _).mono ?_; rintro e w2 ⟨rfl, hx2⟩
          have hacc2 := hacc.step hx2
          clear hacc
          go_wp2_with (at_builtin; refine wp_app ei_b rfl (.tmp 59) (.tmp 64) rfl w1 _ A c acc.length _ rfl hacc2 [.int .i64 (kindL v), .string ⟨(encB v).toArray⟩] 1 1 (by rfl) rfl (by simp [Value.oneCell']) (by omega) (by unfold maxLen; omega) ?_; intro A1 c1 w3 hacc3 _ _; clear hacc2)
          refine ⟨?_, by simp [intOf] <;> omega⟩
          exact ⟨k + 1, acc ++ [(kindL v, encB v)], false, A1, c1, by omega, by go_num, rfl, by simp, by rw [pcsV_app, pcsV_one]; simpa using hacc3, by simp; omega, HR⟩
        · have HR := Lib.hid (rest_in hq (by have := HK.out; rw [HD.out] at this; exact this))
          go_wp2_with fail
          refine (ref_encode v _).mono ?_; rintro e w2 ⟨rfl, hx2⟩
          have hacc2 := hacc.step hx2
          clear hacc
          go_wp2_with (at_builtin; refine wp_app ei_b rfl (.tmp 59) (.tmp 64) rfl w1 _ A c acc.length _ rfl hacc2 [.int .i64 0, .string ⟨(encB v).toArray⟩] 1 1 (by rfl) rfl (by simp [Value.oneCell']) (by omega) (by unfold maxLen; omega) ?_; intro A1 c1 w3 hacc3 _ _; clear hacc2)
          refine ⟨?_, by simp [intOf] <;> omega⟩
          exact ⟨k + 1, acc ++ [(0, encB v)], true, A1, c1, by omega, by go_num, rfl, by simp, by rw [pcsV_app, pcsV_one]; simpa using hacc3, by simp; omega, HR⟩
    · have e : k = xs.length := by omega
      subst e
      obtain ⟨rfl, rfl⟩ := rest_end (by have := HK.out; rwa [List.drop_length] at this)
      go_wp2
      go_ret2
      exact ⟨A, c, rfl, hacc.row, hacc.cap.1, Acc.okc hacc, hacc.ext_of HX.out⟩
end Go.Proofs.YthoicieckodneaaGreatDoor.Pat

/- The document's own: whether two patterns are the same. (Printed by wip/gen/same10.py.) -/
namespace Go.Proofs.YthoicieckodneaaGreatDoor.Pat
open Go.RowKit Utf All Small Strs Build EncC
set_option linter.unusedVariables false
set_option linter.unusedSimpArgs false

theorem bStruct : Tryz.prog.underlying 187 = some (.struct (Tryz.prog.fieldsOf 187)) := by kernel_rfl
theorem bHeld : Tryz.prog.stoodInHeld 187 = false := by kernel_rfl
theorem bGuard : Tryz.prog.eqGuardType Tryz.prog.depth 187 = false := by kernel_rfl
theorem neq_b (x y : Pc) (w : World) : (binOp .neq 187 (.agg #[.int .i64 x.1, .string ⟨x.2.toArray⟩]) (.agg #[.int .i64 y.1, .string ⟨y.2.toArray⟩])).run Tryz.prog w = .ok (.bool (!decide (x = y))) w := by
  have u3 := Tryz.underlying3
  have a3 := Tryz.isAgg3
  have z3 := Tryz.sizeOf3
  have u9 := Tryz.underlying9
  have a9 := Tryz.isAgg9
  have z9 := Tryz.sizeOf9
  obtain ⟨k, t⟩ := x
  obtain ⟨j, u⟩ := y
  rw [run_neq_struct, show (10000 : Nat) = 9999 + 1 from rfl, run_equalIn_agg w 9999 187 _ _ bStruct bHeld]
  simp only [Program.fieldsOf, Tryz.underlying187]
  have hb := beq_strL ⟨t.toArray⟩ ⟨u.toArray⟩
  have hd : (⟨t.toArray⟩ : ByteArray).data.toList = t := rfl
  have hd2 : (⟨u.toArray⟩ : ByteArray).data.toList = u := rfl
  rw [hd, hd2] at hb
  go_simp
  by_cases h1 : k = j <;> by_cases h2 : t = u <;> simp [h1, h2, hb]

end Go.Proofs.YthoicieckodneaaGreatDoor.Pat

/- What a text is made of (abacistref10.G), opened: from the row's reading of the argument to its cells. -/
namespace Go.Proofs.YthoicieckodneaaGreatDoor.Pat
open Go.RowKit Go.ChangeShapes Go.WideShapes Utf All Small
set_option linter.unusedVariables false
set_option linter.unusedSimpArgs false

theorem i64_of {n : Int} (h : (Lit.int .i64 n).wf = true) : i64 n := ⟨(bounds_i64 h).1, (bounds_i64 h).2⟩
theorem open_slice_ints {H : Type} {enc : TypeId × Value → H} {W : World} {fuel : Nat} {v : Value} {x : DataW H × List MemPlace} (h : DataW.trod enc Tryz.prog W 0 (fun _ => true) true fuel 24 [v] = some x) :
    ∃ (A : Option Addr) (cap : Nat) (xs : List Int), v = .slice A xs.length cap ∧ Row W A (xs.map (Value.int .i64)) ∧ ∀ z ∈ xs, i64 z := by
  rcases open_ints Tryz.underlying24 Tryz.underlying3 (by kernel_rfl) h with ⟨hcs, _⟩ | ⟨a, l, c, zs, hcs, _, hl, hm, hz, _, hcell, hwz⟩
  · injection hcs with hcs _
    exact ⟨none, 0, [], hcs, .inl rfl, by simp⟩
  · injection hcs with hcs _
    obtain ⟨_, _, xs, hx, hr, hw⟩ := row_of_is (w := W) (a := some a) (len := l) (cap := c) (zs := zs) (.inr ⟨a, rfl, hl, hm, by simpa using hz, hcell, hwz⟩)
    exact ⟨some a, c, xs, by rw [hx]; exact hcs, hr, fun z hz' => i64_of (hw z hz')⟩
theorem open_int_cell {H : Type} {enc : TypeId × Value → H} {W : World} {fuel : Nat} {v : Value} {x : DataW H × List MemPlace} (h : DataW.trod enc Tryz.prog W 0 (fun _ => true) true fuel 3 [v] = some x) : ∃ n, v = .int .i64 n ∧ i64 n := by
  obtain ⟨n, hcs, _, hw⟩ := DataW.trod_int Tryz.underlying3 h
  injection hcs with hcs _
  exact ⟨n, hcs, i64_of hw⟩
theorem open_bool_cell {H : Type} {enc : TypeId × Value → H} {W : World} {fuel : Nat} {v : Value} {x : DataW H × List MemPlace} (h : DataW.trod enc Tryz.prog W 0 (fun _ => true) true fuel 4 [v] = some x) : ∃ b, v = .bool b := by
  obtain ⟨n, hcs, _⟩ := DataW.trod_bool Tryz.underlying4 h
  injection hcs with hcs _
  exact ⟨n, hcs⟩
theorem some_at {α : Type} {xs : List α} {n : Nat} (h : xs.length = n) {i : Nat} (hi : i < n) : ∃ y, xs[i]? = some y := ⟨xs[i]'(by omega), List.getElem?_eq_getElem (by omega)⟩
end Go.Proofs.YthoicieckodneaaGreatDoor.Pat

/- The law PatternResolves: pieces' texts, and how many are of a kind, are the document's. -/
namespace Go.Proofs.YthoicieckodneaaGreatDoor.Pat
open Go.RowKit Go.ChangeShapes Go.WideShapes Utf All Small Strs Build EncC
set_option linter.unusedVariables false
set_option linter.unusedSimpArgs false

theorem ei_bR : EI 30 187 2 24 := ei_of (z := .agg #[.int .i64 0, .string ⟨#[]⟩]) Tryz.underlying30 (by kernel_rfl) rfl (by decide)
theorem infoB : (Tryz.prog.info? 187).map (·.size) = some 2 := by kernel_rfl
theorem few_mk (l : List UInt8) (m : Nat) : fewB ⟨l.toArray⟩ m = ⟨(l.take m).toArray⟩ := by
  have hsz : (⟨l.toArray⟩ : ByteArray).size = l.length := rfl
  unfold fewB
  rw [hsz]
  split
  · refine bytes_ext ?_
    simp [ByteArray.data_extract]
  · rw [List.take_of_length_le (by omega)]
def ownP (p : Pc) : Pc := (aroundF p.1 4, p.2.take 6)
def ownL (xs : List Pc) : List Pc := (xs.take 8).map ownP
theorem own_snoc {xs : List Pc} {k : Nat} (hk : k < xs.length) : (xs.take (k + 1)).map ownP = (xs.take k).map ownP ++ [ownP xs[k]] := by
  rw [List.take_succ_eq_append_getElem hk, List.map_append]; rfl
theorem ownP_ok (p : Pc) : 0 ≤ (ownP p).1 ∧ (ownP p).1 < 4 ∧ (ownP p).2.length ≤ 6 := by
  have := aroundF_bd p.1 4 (by omega)
  exact ⟨this.1, this.2, by show (p.2.take 6).length ≤ 6; simp; omega⟩
theorem ownL_ok (xs : List Pc) : (ownL xs).length ≤ 8 ∧ ∀ p ∈ ownL xs, 0 ≤ p.1 ∧ p.1 < 4 ∧ p.2.length ≤ 6 := by
  refine ⟨by simp [ownL]; omega, fun p hp => ?_⟩
  obtain ⟨q, _, rfl⟩ := List.mem_map.1 hp
  exact ownP_ok q
theorem pcs_two (x : Pc) : [Value.int .i64 x.1, Value.string ⟨x.2.toArray⟩] = pcsV [x] := rfl
/-! ### of -/
/-! ### the document's Resolve -/
theorem tx_at (cur per min : List UInt8) (j : Int) (h1 : 0 < j) (h2 : j < 4) : ∃ (n : Nat) (t : List UInt8), j = n ∧ n < 4 ∧ ([strV [], strV cur, strV per, strV min] : List Value)[n]? = some (strV t) ∧ t = (if j = 1 then cur else if j = 2 then per else if j = 3 then min else []) := by
  rcases (by omega : j = 1 ∨ j = 2 ∨ j = 3) with rfl | rfl | rfl
  · exact ⟨1, cur, rfl, by omega, rfl, rfl⟩
  · exact ⟨2, per, rfl, by omega, rfl, rfl⟩
  · exact ⟨3, min, rfl, by omega, rfl, rfl⟩
set_option maxHeartbeats 4000000 in
set_option maxRecDepth 100000 in
theorem resolve_ref (A : Option Addr) (c : Nat) (cur per min : List UInt8) (l : List Pc) (w : World) (hA : Row w A (pcsV l)) (hl : l.length ≤ 1000) (hc : cur.length ≤ 100000) (hp : per.length ≤ 100000) (hm : min.length ≤ 100000) (hk : ∀ p ∈ l, 0 ≤ p.1 ∧ p.1 < 4 ∧ p.2.length ≤ 6) :
    Calls Tryz.prog 164 #[.slice A l.length c, .string ⟨cur.toArray⟩, .string ⟨per.toArray⟩, .string ⟨min.toArray⟩] w fun e w' => e = .returned (.string ⟨(resF cur per min l).toArray⟩) ∧ Ext w w' := by
  have HK := Lib.hid hk
  clear hk
  have hbx := Box.new w 9 [strV [], strV cur, strV per, strV min]
  have hx0 : Ext w (w.alloc (.cells [strV [], strV cur, strV per, strV min].toArray 9)) := Ext.alloc_ (Ext.refl w) _
  go_enter Tryz.func164, Tryz.ntmps164
  go_wp2
  change Code.wp _ _ _ _ (w.alloc (.cells [strV [], strV cur, strV per, strV min].toArray 9))
  have HROW : Hid (Row (w.alloc (.cells [strV [], strV cur, strV per, strV min].toArray 9)) (some ⟨w.heap.size, 0, none⟩) [strV [], strV cur, strV per, strV min]) := Lib.hid hbx.row
  clear hbx
  generalize w.alloc (.cells [strV [], strV cur, strV per, strV min].toArray 9) = w1 at *
  go_loop [10, 11] (fun s i => ∃ k : Nat, k ≤ l.length ∧ i = .int .i64 k ∧ s = .string ⟨(resF cur per min (l.take k)).toArray⟩ ∧ (resF cur per min (l.take k)).length ≤ 100000 * k) (fun _ i => l.length - (intOf i).toNat)
  case atStart => exact ⟨0, Nat.zero_le _, rfl, rfl, by simp [resF]⟩
  case round =>
    obtain ⟨k, hk, rfl, rfl, hle⟩ := hrel
    by_cases hlt : k < l.length
    · obtain ⟨b, off, rfl, hc1, hc2⟩ := row_pc (hA.below hx0 (Nat.le_refl _)) hlt
      have HS := Lib.hid (resF_snoc cur per min hlt)
      obtain ⟨ht0, ht1, ht2⟩ := HK.out _ (List.getElem_mem hlt)
      generalize l[k] = x at *
      obtain ⟨j, t⟩ := x
      simp only at ht0 ht1 ht2
      generalize resF cur per min (l.take k) = tx at *
      by_cases hj : 0 < j
      · obtain ⟨n, u, rfl, hn4, hnu, hu⟩ := tx_at cur per min j hj ht1
        have hcn : w1.cell? ⟨w.heap.size, n, none⟩ = some (.string ⟨u.toArray⟩) := HROW.out.cell00 hnu
        have HV : Hid ((if ((n : Int), t).1 = 1 then cur else if ((n : Int), t).1 = 2 then per else if ((n : Int), t).1 = 3 then min else ((n : Int), t).2) = u) := Lib.hid (by
          rw [hu]
          rcases (by omega : n = 1 ∨ n = 2 ∨ n = 3) with rfl | rfl | rfl <;> rfl)
        have hul : u.length ≤ 100000 := by
          rw [hu]
          (repeat' split) <;> first | assumption | simp
        have hgt : (n : Int) > 0 := hj
        clear hu hnu
        go_wp2
        go_round
        case rel => exact ⟨k + 1, by omega, by go_num, by rw [HS.out, HV.out, app_mk], by rw [HS.out, HV.out, List.length_append]; omega⟩
        case measure => simp [intOf]; omega
      · have e0 : j = 0 := by omega
        subst e0
        have HV : Hid ((if ((0 : Int), t).1 = 1 then cur else if ((0 : Int), t).1 = 2 then per else if ((0 : Int), t).1 = 3 then min else ((0 : Int), t).2) = t) := Lib.hid rfl
        go_wp2
        go_round
        case rel => exact ⟨k + 1, by omega, by go_num, by rw [HS.out, HV.out, app_mk], by rw [HS.out, HV.out, List.length_append]; omega⟩
        case measure => simp [intOf]; omega
    · have e : k = l.length := by omega
      subst e
      rw [List.take_length]
      go_wp2
      go_ret
      exact ⟨rfl, hx0⟩
theorem count_k (A : Option Addr) (c n : Nat) (l : List Pc) (k : Int) (w : World) (hn : l.length = n) (hr : Row w A (pcsV l)) (hl : l.length ≤ 10000000000) :
    Calls Tryz.prog 94 #[.slice A n c, .int .i64 k] w fun e w' => e = .returned (.int .i64 (cntK k l)) ∧ Ext w w' := by
  subst hn; exact count_ A c l k w hr hl
/-! ### what comes in -/
theorem row_of_pcs {w : World} {b off : Nat} {xs : List Pc} (h : ∀ i (hi : i < xs.length), w.cell? ⟨b, off + i * 2, none⟩ = some (.int .i64 xs[i].1) ∧ w.cell? ⟨b, off + i * 2 + 1, none⟩ = some (.string ⟨xs[i].2.toArray⟩)) : Row w (some ⟨b, off, none⟩) (pcsV xs) := by
  refine .inr ⟨b, off, rfl, fun j v hv => ?_⟩
  have hj : j < 2 * xs.length := by
    rw [← pcsV_len]
    exact (List.getElem?_eq_some_iff.1 hv).1
  obtain ⟨i, r, hr, rfl⟩ : ∃ i r, r < 2 ∧ j = i * 2 + r := ⟨j / 2, j % 2, Nat.mod_lt _ (by omega), by omega⟩
  have hi : i < xs.length := by omega
  obtain ⟨p1, p2⟩ := pcs_at xs i hi
  obtain ⟨c1, c2⟩ := h i hi
  rcases (by omega : r = 0 ∨ r = 1) with rfl | rfl
  · rw [Nat.add_zero] at hv ⊢
    rw [p1] at hv
    rw [← Option.some.inj hv]; exact c1
  · rw [p2] at hv
    rw [← Option.some.inj hv, ← Nat.add_assoc]; exact c2
theorem open_pcs {H : Type} {enc : TypeId × Value → H} {W : World} {v : Value} {d : DataW H} {ps : List MemPlace} (hv : ∃ a len cap, v = .slice a len cap) (h : DataW.Trod enc Tryz.prog W 0 (fun _ => true) true 30 v d ps) :
    ∃ (A : Option Addr) (cap : Nat) (xs : List Pc), v = .slice A xs.length cap ∧ xs.length ≤ cap ∧ cap ≤ maxLen ∧ Row W A (pcsV xs) ∧ ∀ x ∈ xs, i64 x.1 ∧ x.2.length ≤ maxLen := by
  obtain ⟨a, len, cap, rfl⟩ := hv
  obtain ⟨fuel, hf⟩ := h
  rcases Deep.open_slice_pairs Tryz.underlying30 Tryz.underlying187 (by kernel_rfl) rfl rfl (by kernel_rfl) (by kernel_rfl) hf with ⟨hcs, _⟩ | ⟨x, l, c, m, n, V0, V1, D0, D1, P0, P1, hcs, _, hl, hm, hmm, _, hcell⟩
  · simp [Value.cells] at hcs
    obtain ⟨rfl, rfl, rfl⟩ := hcs
    exact ⟨none, 0, [], rfl, Nat.le_refl _, Nat.zero_le _, .inl rfl, by simp⟩
  · simp [Value.cells] at hcs
    obtain ⟨rfl, rfl, rfl⟩ := hcs
    have hmc : m = cap := by simpa using hmm
    subst hmc
    have each : ∀ i, i < m → ∃ (n : Int) (t : ByteArray), W.cell? (x.add (i * 2)) = some (.int .i64 n) ∧ W.cell? (x.add (i * 2 + 1)) = some (.string t) ∧ i64 n ∧ t.size ≤ maxLen := by
      intro i hi
      obtain ⟨e1, e2, e3, e4⟩ := hcell i hi
      obtain ⟨z, hz, _, hw⟩ := DataW.trod_int Tryz.underlying3 e3
      obtain ⟨t, hts, _, hsz⟩ := DataW.trod_string Tryz.underlying9 e4
      injection hz with hz _
      injection hts with hts _
      exact ⟨z, t, by rw [e1, hz], by rw [e2, hts], i64_of hw, hsz⟩
    let f : Nat → Pc := fun i => if hi : i < m then ((each i hi).choose, (each i hi).choose_spec.choose.data.toList) else (0, [])
    have hf : ∀ i (hi : i < m), W.cell? (x.add (i * 2)) = some (.int .i64 (f i).1) ∧ W.cell? (x.add (i * 2 + 1)) = some (.string ⟨(f i).2.toArray⟩) ∧ i64 (f i).1 ∧ (f i).2.length ≤ maxLen := by
      intro i hi
      have hs := (each i hi).choose_spec.choose_spec
      have e : f i = ((each i hi).choose, (each i hi).choose_spec.choose.data.toList) := dif_pos hi
      rw [e]
      exact ⟨hs.1, hs.2.1, hs.2.2.1, by simpa using hs.2.2.2⟩
    refine ⟨some x, m, (List.range len).map f, by simp, by simpa using hl, hm, ?_, ?_⟩
    · by_cases h0 : len = 0
      · subst h0; exact .inl rfl
      · obtain ⟨b, off, sp⟩ := x
        have hsp : sp = none := by
          have := World.cell?_spot (hf 0 (by omega)).1
          simpa [Addr.add] using this
        subst hsp
        refine row_of_pcs fun i hi => ?_
        have hi' : i < m := by simp at hi; omega
        have hfi := hf i hi'
        simp only [List.getElem_map, List.getElem_range]
        have ea : ∀ k, (⟨b, off, none⟩ : Addr).add k = ⟨b, off + k, none⟩ := by
          intro k
          unfold Addr.add
          split
          · rename_i h; subst h; rfl
          · rfl
        rw [ea, ea] at hfi
        exact ⟨hfi.1, by rw [Nat.add_assoc]; exact hfi.2.1⟩
    · intro y hy
      obtain ⟨i, hi, rfl⟩ := List.mem_map.1 hy
      exact (hf i (by simp at hi; omega)).2.2
end Go.Proofs.YthoicieckodneaaGreatDoor.Pat
