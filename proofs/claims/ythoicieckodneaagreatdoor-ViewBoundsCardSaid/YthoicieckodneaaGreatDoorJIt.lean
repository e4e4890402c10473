/- Joined by wip/join.py: EndsP ItP ItP2 SplP ItP3 VwP VwP2. -/
import Derived.Test.YthoicieckodneaaGreatDoorRows
import Derived.Test.YthoicieckodneaaGreatDoorJLocE
import Derived.Test.YthoicieckodneaaGreatDoorJLocD
import Derived.Test.YthoicieckodneaaGreatDoorJCls
import Derived.Test.YthoicieckodneaaGreatDoorJPat1
/- Where groups end, and how many: plain. No program. -/
namespace Go.Proofs.YthoicieckodneaaGreatDoor.Ends
set_option linter.unusedVariables false
set_option linter.unusedSimpArgs false

def itemEnds (l p s : Int) : Bool :=
  if l < 1 ∨ p < 1 ∨ l < p then false else if l = p then true else if 0 < s then decide ((l - p) % s = 0) else false

end Go.Proofs.YthoicieckodneaaGreatDoor.Ends

/- A draft's items, plain laws: what they are; the document's atom by atom. No program. -/
namespace Go.Proofs.YthoicieckodneaaGreatDoor.Loc
open Go.RowKit Utf All Small Strs Build EncC Pat Cls Dec Go.Proofs.YthoicieckodneaaGreatDoor.Sys
set_option linter.unusedVariables false
set_option linter.unusedSimpArgs false

/-- an item: its tag, its text, its atom -/
abbrev It := Int × List UInt8 × Int
def itV (x : It) : List Value := [.int .i64 x.1, .string ⟨x.2.1.toArray⟩, .int .i64 x.2.2]
def itsV (l : List It) : List Value := l.flatMap itV
theorem its_len (l : List It) : (itsV l).length = l.length * 3 := flat_len itV 3 (fun _ => rfl) l
theorem its_app (l m : List It) : itsV (l ++ m) = itsV l ++ itsV m := by unfold itsV; rw [List.flatMap_append]
/-- a draft -/
structure Dr where
  neg : Bool
  int : List Int
  sep : Bool
  frac : List Int
structure DrOk (d : Dr) : Prop where
  int : ∀ x ∈ d.int, 0 ≤ x ∧ x ≤ 9
  frac : ∀ x ∈ d.frac, 0 ≤ x ∧ x ≤ 9
  sep : d.sep = false → d.frac = []
def prtI (r : Rec) (p : Prt) : It := if p.1 then (1, r.minus, -1) else (0, p.2, -1)
def grpAt (l : Loc) (left : Int) : List It := if Ends.itemEnds left l.p.num.prim l.p.num.sec then [(3, l.r.group, -1)] else []
def digI (l : Loc) (x a : Int) : It := (2, digZ l x, a)
def intF (l : Loc) (xs : List Int) (i : Nat) : List It := digI l (xs.getD i 0) i :: grpAt l ((xs.length : Int) - 1 - i)
def intsTo (l : Loc) (xs : List Int) (k : Nat) : List It := (List.range k).flatMap (intF l xs)
def fracTo (l : Loc) (n : Nat) (ys : List Int) (k : Nat) : List It := (List.range k).map fun (i : Nat) => digI l (ys.getD i 0) ((n : Int) + 1 + i)
def decI (l : Loc) (d : Dr) : List It := if d.sep then [(4, l.r.decimal, (d.int.length : Int))] else []
def midF (l : Loc) (d : Dr) : List It := intsTo l d.int d.int.length ++ (decI l d ++ fracTo l d.int.length d.frac d.frac.length)
def itemsF (l : Loc) (d : Dr) : List It := (ahead l d.neg).map (prtI l.r) ++ (midF l d ++ (behind l d.neg).map (prtI l.r))
theorem intsTo_succ (l : Loc) (xs : List Int) (k : Nat) : intsTo l xs (k + 1) = intsTo l xs k ++ intF l xs k := by
  unfold intsTo; rw [List.range_succ, List.flatMap_append]; simp
theorem fracTo_succ (l : Loc) (n : Nat) (ys : List Int) (k : Nat) : fracTo l n ys (k + 1) = fracTo l n ys k ++ [digI l (ys.getD k 0) ((n : Int) + 1 + k)] := by
  unfold fracTo; rw [List.range_succ, List.map_append]; rfl
theorem fracTo_len (l : Loc) (n : Nat) (ys : List Int) (k : Nat) : (fracTo l n ys k).length = k := by unfold fracTo; simp
/-- its atoms -/
def atomsF (d : Dr) : List Int := d.int ++ ((if d.sep then [10] else []) ++ d.frac)
def atomAt (d : Dr) (i : Nat) : Int := (atomsF d).getD i 0
def refAt (l : Loc) (d : Dr) (i : Nat) : List It := if atomAt d i = 10 then [(4, l.r.decimal, (i : Int))] else digI l (atomAt d i) i :: grpAt l ((d.int.length : Int) - 1 - i)
def refTo (l : Loc) (d : Dr) (k : Nat) : List It := (List.range k).flatMap (refAt l d)
theorem refTo_succ (l : Loc) (d : Dr) (k : Nat) : refTo l d (k + 1) = refTo l d k ++ refAt l d k := by
  unfold refTo; rw [List.range_succ, List.flatMap_append]; simp
theorem atoms_len (d : Dr) : (atomsF d).length = d.int.length + ((if d.sep then 1 else 0) + d.frac.length) := by
  unfold atomsF; rw [List.length_append, List.length_append]; split <;> rfl
theorem atom_int {d : Dr} {i : Nat} (h : i < d.int.length) : atomAt d i = d.int.getD i 0 := by
  unfold atomAt atomsF
  rw [List.getD_eq_getElem?_getD, List.getD_eq_getElem?_getD, List.getElem?_append_left h]
theorem atom_dec {d : Dr} (h : d.sep = true) : atomAt d d.int.length = 10 := by
  unfold atomAt atomsF
  rw [List.getD_eq_getElem?_getD, List.getElem?_append_right (Nat.le_refl _), h]; simp
theorem atom_frac {d : Dr} (h : d.sep = true) (i : Nat) : atomAt d (d.int.length + 1 + i) = d.frac.getD i 0 := by
  unfold atomAt atomsF
  rw [List.getD_eq_getElem?_getD, List.getD_eq_getElem?_getD, List.getElem?_append_right (by omega), h, show d.int.length + 1 + i - d.int.length = i + 1 by omega]
  rfl
theorem getD_bd {xs : List Int} (h : ∀ x ∈ xs, 0 ≤ x ∧ x ≤ 9) {i : Nat} (hi : i < xs.length) : 0 ≤ xs.getD i 0 ∧ xs.getD i 0 ≤ 9 := by
  rw [List.getD_eq_getElem?_getD, List.getElem?_eq_getElem hi]; exact h _ (List.getElem_mem hi)
theorem grp_neg (l : Loc) {left : Int} (h : left < 1) : grpAt l left = [] := by
  have e : Ends.itemEnds left l.p.num.prim l.p.num.sec = false := by
    unfold Ends.itemEnds; exact if_pos (Or.inl h)
  unfold grpAt; rw [e]; rfl
theorem flatMap_eq {α β : Type} {f g : α → List β} : ∀ {l : List α}, (∀ a ∈ l, f a = g a) → l.flatMap f = l.flatMap g
  | [], _ => rfl
  | a :: l, h => by
    rw [List.flatMap_cons, List.flatMap_cons, h a List.mem_cons_self, flatMap_eq fun b hb => h b (List.mem_cons_of_mem _ hb)]
theorem ref_int {l : Loc} {d : Dr} (h : DrOk d) : refTo l d d.int.length = intsTo l d.int d.int.length := by
  unfold refTo intsTo
  refine flatMap_eq fun i hi => ?_
  have hi' : i < d.int.length := List.mem_range.1 hi
  have hb := getD_bd h.int hi'
  unfold refAt intF
  rw [atom_int hi', if_neg (by omega)]
theorem ref_mid {l : Loc} {d : Dr} (h : DrOk d) : refTo l d (atomsF d).length = midF l d := by
  unfold midF
  rw [atoms_len]
  cases hs : d.sep
  · have hf := h.sep hs
    rw [hf]
    simp only [Bool.false_eq_true, if_false, List.length_nil, Nat.add_zero]
    rw [ref_int h]
    unfold decI fracTo; rw [hs]; simp
  · simp only [if_true]
    have key : ∀ k, k ≤ d.frac.length → refTo l d (d.int.length + (1 + k)) = intsTo l d.int d.int.length ++ ([(4, l.r.decimal, (d.int.length : Int))] ++ fracTo l d.int.length d.frac k) := by
      intro k
      induction k with
      | zero =>
        intro _
        show refTo l d (d.int.length + 1) = _
        rw [refTo_succ, ref_int h]
        unfold refAt
        rw [atom_dec hs, if_pos rfl]
        simp [fracTo]
      | succ k ih =>
        intro hk
        rw [show d.int.length + (1 + (k + 1)) = d.int.length + (1 + k) + 1 by omega, refTo_succ, ih (by omega), fracTo_succ]
        have hb := getD_bd h.frac (show k < d.frac.length by omega)
        have ha := atom_frac hs k
        rw [show d.int.length + 1 + k = d.int.length + (1 + k) by omega] at ha
        unfold refAt
        rw [ha, if_neg (by omega), grp_neg l (by omega)]
        have e : ((d.int.length + (1 + k) : Nat) : Int) = (d.int.length : Int) + 1 + k := by omega
        rw [e]
        simp [List.append_assoc]
    rw [key d.frac.length (Nat.le_refl _)]
    unfold decI; rw [hs]; rfl
end Go.Proofs.YthoicieckodneaaGreatDoor.Loc

/- A draft's items, plain laws: their signs, their atoms, their groups. No program. -/
namespace Go.Proofs.YthoicieckodneaaGreatDoor.Loc
open Go.RowKit Utf All Small Strs Build EncC Pat Cls Dec Go.Proofs.YthoicieckodneaaGreatDoor.Sys
set_option linter.unusedVariables false
set_option linter.unusedSimpArgs false

/-! ### signs -/
theorem grp_mem {l : Loc} {z : Int} {x : It} (h : x ∈ grpAt l z) : x = (3, l.r.group, -1) := by
  unfold grpAt at h
  split at h
  · simpa using h
  · cases h
theorem ints_mem {l : Loc} {xs : List Int} {k : Nat} {x : It} (h : x ∈ intsTo l xs k) : (∃ i, i < k ∧ x = digI l (xs.getD i 0) i) ∨ x = (3, l.r.group, -1) := by
  unfold intsTo at h
  obtain ⟨i, hi, hx⟩ := List.mem_flatMap.1 h
  unfold intF at hx
  rcases List.mem_cons.1 hx with rfl | hx
  · exact .inl ⟨i, List.mem_range.1 hi, rfl⟩
  · exact .inr (grp_mem hx)
theorem frac_mem {l : Loc} {n : Nat} {ys : List Int} {k : Nat} {x : It} (h : x ∈ fracTo l n ys k) : ∃ i, i < k ∧ x = digI l (ys.getD i 0) ((n : Int) + 1 + i) := by
  unfold fracTo at h
  obtain ⟨i, hi, rfl⟩ := List.mem_map.1 h
  exact ⟨i, List.mem_range.1 hi, rfl⟩
theorem mid_mem {l : Loc} {d : Dr} {x : It} (h : x ∈ midF l d) : (∃ v a, x = digI l v a) ∨ x = (3, l.r.group, -1) ∨ x = (4, l.r.decimal, (d.int.length : Int)) := by
  unfold midF at h
  rcases List.mem_append.1 h with h | h
  · rcases ints_mem h with ⟨i, _, rfl⟩ | rfl
    · exact .inl ⟨_, _, rfl⟩
    · exact .inr (.inl rfl)
  · rcases List.mem_append.1 h with h | h
    · unfold decI at h
      split at h
      · exact .inr (.inr (by simpa using h))
      · cases h
    · obtain ⟨i, _, rfl⟩ := frac_mem h
      exact .inl ⟨_, _, rfl⟩
/-! ### atoms -/
def isAt (x : It) : Bool := x.1 == 2 || x.1 == 4
def atomI (l : Loc) (d : Dr) (j : Nat) : It := if atomAt d j = 10 then (4, l.r.decimal, (j : Int)) else digI l (atomAt d j) j
theorem grp_filter (l : Loc) (z : Int) : (grpAt l z).filter isAt = [] := by
  rw [List.filter_eq_nil_iff]
  intro x hx
  rw [grp_mem hx]; simp [isAt]
theorem ref_filter (l : Loc) (d : Dr) : ∀ k, (refTo l d k).filter isAt = (List.range k).map (atomI l d)
  | 0 => rfl
  | k + 1 => by
    rw [refTo_succ, List.filter_append, ref_filter l d k, List.range_succ, List.map_append]
    congr 1
    show (refAt l d k).filter isAt = [atomI l d k]
    unfold refAt atomI
    split
    · rfl
    · rw [List.filter_cons, grp_filter]
      simp [isAt, digI]
theorem prt_filter (r : Rec) (ps : List Prt) : (ps.map (prtI r)).filter isAt = [] := by
  rw [List.filter_eq_nil_iff]
  intro x hx
  obtain ⟨p, _, rfl⟩ := List.mem_map.1 hx
  unfold prtI isAt
  split <;> simp
theorem items_filter {l : Loc} {d : Dr} (h : DrOk d) : (itemsF l d).filter isAt = (List.range (atomsF d).length).map (atomI l d) := by
  unfold itemsF
  rw [List.filter_append, List.filter_append, prt_filter, prt_filter, ← ref_mid h, ref_filter]; simp
theorem items_none {l : Loc} {d : Dr} {x : It} (h : x ∈ itemsF l d) (ha : isAt x = false) : x.2.2 = -1 := by
  unfold itemsF at h
  have hp : ∀ ps : List Prt, x ∈ ps.map (prtI l.r) → x.2.2 = -1 := fun ps hx => by
    obtain ⟨p, _, rfl⟩ := List.mem_map.1 hx
    unfold prtI
    split <;> rfl
  rcases List.mem_append.1 h with h | h
  · exact hp _ h
  · rcases List.mem_append.1 h with h | h
    · rcases mid_mem h with ⟨v, a, rfl⟩ | rfl | rfl
      · simp [isAt, digI] at ha
      · rfl
      · simp [isAt] at ha
    · exact hp _ h
theorem filter_at {α : Type} (p : α → Bool) : ∀ (l : List α) (i : Nat) (x : α), l[i]? = some x → p x = true → (l.filter p)[(l.take i).countP p]? = some x
  | [], i, x, h, _ => by simp at h
  | a :: l, 0, x, h, hp => by
    simp at h; subst h
    rw [List.filter_cons, if_pos hp]; simp
  | a :: l, i + 1, x, h, hp => by
    have h' : l[i]? = some x := by simpa using h
    have ih := filter_at p l i x h' hp
    rw [List.filter_cons, List.take_succ_cons, List.countP_cons]
    cases ha : p a
    · simpa using ih
    · simpa using ih
/-- the i-th item: an atom's is that of the atom that has as many ahead -/
theorem items_at {l : Loc} {d : Dr} (h : DrOk d) {i : Nat} {x : It} (hx : (itemsF l d)[i]? = some x) (ha : isAt x = true) :
    ((itemsF l d).take i).countP isAt < (atomsF d).length ∧ x = atomI l d (((itemsF l d).take i).countP isAt) := by
  have h1 := filter_at isAt _ i x hx ha
  rw [items_filter h] at h1
  have hlt := (List.getElem?_eq_some_iff.1 h1).1
  simp at hlt
  rw [List.getElem?_map, List.getElem?_range hlt] at h1
  exact ⟨hlt, (Option.some.inj h1).symm⟩
theorem items_count {l : Loc} {d : Dr} (h : DrOk d) : (itemsF l d).countP isAt = (atomsF d).length := by
  rw [List.countP_eq_length_filter, items_filter h]; simp
/-! ### groups -/
/-- each group stands between two digits -/
def Between (L : List It) : Prop := ∀ (i : Nat) (x : It), L[i]? = some x → x.1 = 3 → 0 < i ∧ (∃ y : It, L[i - 1]? = some y ∧ y.1 = 2) ∧ ∃ z : It, L[i + 1]? = some z ∧ z.1 = 2
theorem Between.none {L : List It} (h : ∀ x ∈ L, x.1 ≠ 3) : Between L := fun i x hx h3 => absurd h3 (h x (List.mem_of_getElem? hx))
theorem Between.app {A B : List It} (ha : Between A) (hb : Between B) : Between (A ++ B) := by
  intro i x hx h3
  by_cases hi : i < A.length
  · rw [List.getElem?_append_left hi] at hx
    obtain ⟨h0, ⟨y, hy, hy2⟩, z, hz, hz2⟩ := ha i x hx h3
    have hz' := (List.getElem?_eq_some_iff.1 hz).1
    exact ⟨h0, ⟨y, by rw [List.getElem?_append_left (by omega)]; exact hy, hy2⟩, z, by rw [List.getElem?_append_left hz']; exact hz, hz2⟩
  · rw [List.getElem?_append_right (by omega)] at hx
    obtain ⟨h0, ⟨y, hy, hy2⟩, z, hz, hz2⟩ := hb _ x hx h3
    refine ⟨by omega, ⟨y, ?_, hy2⟩, z, ?_, hz2⟩
    · rw [List.getElem?_append_right (by omega), show i - 1 - A.length = i - A.length - 1 by omega]; exact hy
    · rw [List.getElem?_append_right (by omega), show i + 1 - A.length = i - A.length + 1 by omega]; exact hz
theorem Between.grp {A : List It} {u g v : It} (ha : Between (A ++ [u])) (hu : u.1 = 2) (hv : v.1 = 2) : Between (A ++ [u] ++ [g, v]) := by
  intro i x hx h3
  by_cases hi : i < (A ++ [u]).length
  · rw [List.getElem?_append_left hi] at hx
    obtain ⟨h0, ⟨y, hy, hy2⟩, z, hz, hz2⟩ := ha i x hx h3
    have hz' := (List.getElem?_eq_some_iff.1 hz).1
    exact ⟨h0, ⟨y, by rw [List.getElem?_append_left (by omega)]; exact hy, hy2⟩, z, by rw [List.getElem?_append_left hz']; exact hz, hz2⟩
  · rw [List.getElem?_append_right (by omega)] at hx
    have hlen : (A ++ [u]).length = A.length + 1 := by simp
    have hb := (List.getElem?_eq_some_iff.1 hx).1
    simp at hb
    rcases (by omega : i - (A ++ [u]).length = 0 ∨ i - (A ++ [u]).length = 1) with h | h
    · refine ⟨by omega, ⟨u, ?_, hu⟩, v, ?_, hv⟩
      · rw [List.getElem?_append_left (by omega), List.getElem?_append_right (by omega), show i - 1 - A.length = 0 by omega]; rfl
      · rw [List.getElem?_append_right (by omega), show i + 1 - (A ++ [u]).length = 1 by omega]; rfl
    · rw [h] at hx
      simp at hx
      subst hx
      omega
end Go.Proofs.YthoicieckodneaaGreatDoor.Loc

/- Clusters of plain texts, side by side. No program. -/
namespace Go.Proofs.YthoicieckodneaaGreatDoor.Cls
open All Utf Dec EncC
set_option linter.unusedVariables false
set_option linter.unusedSimpArgs false

def enc (cs : List Int) : List UInt8 := cs.flatMap encB
theorem enc_app (a b : List Int) : enc (a ++ b) = enc a ++ enc b := List.flatMap_append
theorem enc_cons (c : Int) (r : List Int) : enc (c :: r) = encB c ++ enc r := rfl
def posL : Int → List Int → List Int
  | _, [] => []
  | p, c :: r => p :: posL (p + (encB c).length) r
theorem starts_enc : ∀ (cs : List Int) (p : Int), (∀ c ∈ cs, mayC c = true) → startsP p (pieces (enc cs)) = posL p cs
  | [], _, _ => rfl
  | c :: r, p, h => by
    have hc := h c List.mem_cons_self
    have hl := encB_len hc
    have hne : enc (c :: r) ≠ [] := by
      rw [enc_cons]; intro e
      have := congrArg List.length e
      rw [List.length_append] at this
      simp only [List.length_nil] at this
      omega
    have hd := (dec_enc hc (enc r)).1
    rw [starts_cons hne, enc_cons, hd]
    show p :: startsP (p + (encB c).length) (pieces ((encB c ++ enc r).drop (encB c).length)) = _
    rw [List.drop_left, starts_enc r _ fun x hx => h x (List.mem_cons_of_mem _ hx)]; rfl
theorem chars_encf (cs : List Int) (h : ∀ c ∈ cs, mayC c = true) : charsL (enc cs) = cs := by
  have := chars_encs cs [] h
  rw [List.append_nil] at this
  unfold enc; rw [this]
  show cs ++ charsL [] = cs
  have e : charsL [] = [] := rfl
  rw [e, List.append_nil]
/-- plain characters: each of class 0 or 4 -/
def PlC (c : Int) : Prop := mayC c = true ∧ (clsZ c = 0 ∨ clsZ c = 4)
/-- the clusters behind a piece of one -/
def goC (u : List UInt8) : List Int → List (List UInt8)
  | [] => [u]
  | c :: r => if clsZ c = 4 then goC (u ++ encB c) r else u :: goC (encB c) r
theorem join_plain {l : Int} {rk : List Int} {k : Int} (hl : l = 0 ∨ l = 4) (hk : k = 0 ∨ k = 4) : joinS (l :: rk) k = decide (k = 4) := by
  rcases hl with rfl | rfl <;> rcases hk with rfl | rfl <;> rfl
theorem cuts_go : ∀ (cs : List Int) (x u : List UInt8) (rk : List Int) (l : Int) (s : List UInt8), (l = 0 ∨ l = 4) → (∀ c ∈ cs, PlC c) → s = x ++ (u ++ enc cs) →
    cutsL s ((x.length : Int) :: (stG (l :: rk) cs (posL ((x.length : Int) + u.length) cs) ++ [(s.length : Int)])) = goC u cs
  | [], x, u, rk, l, s, hl, _, hs => by
    have hs' : s = x ++ u := by rw [hs]; simp [enc]
    subst hs'
    show [((x ++ u).drop (x.length : Int).toNat).take (((x ++ u).length : Int).toNat - (x.length : Int).toNat)] = [u]
    rw [Int.toNat_natCast, Int.toNat_natCast, List.drop_left, List.length_append, Nat.add_sub_cancel_left, List.take_length]
  | c :: r, x, u, rk, l, s, hl, hc, hs => by
    have hcc := hc c List.mem_cons_self
    have hr : ∀ d ∈ r, PlC d := fun d hd => hc d (List.mem_cons_of_mem _ hd)
    unfold stG posL goC
    rw [join_plain hl hcc.2]
    by_cases h4 : clsZ c = 4
    · rw [if_pos (decide_eq_true h4), if_pos h4]
      have ih := cuts_go r x (u ++ encB c) (l :: rk) (clsZ c) s (.inr h4) hr (by rw [hs, enc_cons]; simp)
      rw [List.length_append] at ih
      have e : (x.length : Int) + ((u.length + (encB c).length : Nat) : Int) = (x.length : Int) + u.length + (encB c).length := by omega
      rw [e] at ih
      exact ih
    · have h0 : clsZ c = 0 := hcc.2.resolve_right h4
      rw [if_neg (by simp [h4]), if_neg h4]
      have ih := cuts_go r (x ++ u) (encB c) (l :: rk) (clsZ c) s (.inl h0) hr (by rw [hs, enc_cons]; simp)
      rw [List.length_append] at ih
      have e : ((x.length + u.length : Nat) : Int) = (x.length : Int) + u.length := by omega
      rw [e] at ih
      show ((s.drop (x.length : Int).toNat).take (((x.length : Int) + u.length).toNat - (x.length : Int).toNat)) :: _ = _
      refine congr (congrArg List.cons ?_) ih
      rw [Int.toNat_natCast, show ((x.length : Int) + u.length).toNat - x.length = u.length by omega, hs, List.drop_left, List.take_left]
/-- a plain text: its characters; the first one is of class 0 -/
structure PlT (t : List UInt8) (cs : List Int) : Prop where
  eq : t = enc cs
  pl : ∀ c ∈ cs, PlC c
  hd : ∀ c r, cs = c :: r → clsZ c = 0
def goS : List Int → List (List UInt8)
  | [] => []
  | c :: r => goC (encB c) r
theorem split_go {t : List UInt8} {cs : List Int} (h : PlT t cs) : splitS t = goS cs := by
  have hm : ∀ c ∈ cs, mayC c = true := fun c hc => (h.pl c hc).1
  rw [h.eq]
  unfold splitS cstL startsL
  rw [chars_encf cs hm, starts_enc cs 0 hm]
  cases cs with
  | nil => rfl
  | cons c r =>
    have h0 := h.hd c r rfl
    have hg := cuts_go r [] (encB c) [] (clsZ c) (enc (c :: r)) (.inl h0) (fun d hd => h.pl d (List.mem_cons_of_mem _ hd)) rfl
    unfold stG posL goS
    have hj : joinS [] (clsZ c) = false := rfl
    rw [hj]
    simp only [List.length_nil] at hg
    have e : ((0 : Nat) : Int) + ((encB c).length : Int) = 0 + ((encB c).length : Int) := rfl
    exact hg
theorem goC_cons (u : List UInt8) (c : Int) (r : List Int) : goC u (c :: r) = if clsZ c = 4 then goC (u ++ encB c) r else u :: goC (encB c) r := rfl
theorem goC_app : ∀ (r : List Int) (u : List UInt8) (c : Int) (q : List Int), clsZ c = 0 → goC u (r ++ c :: q) = goC u r ++ goC (encB c) q
  | [], u, c, q, h => by
    rw [List.nil_append, goC_cons, if_neg (by omega)]; rfl
  | d :: r, u, c, q, h => by
    rw [List.cons_append, goC_cons, goC_cons u d r]
    split
    · exact goC_app r _ c q h
    · rw [goC_app r _ c q h]; rfl
theorem goS_app {a b : List Int} (hb : ∀ c r, b = c :: r → clsZ c = 0) : goS (a ++ b) = goS a ++ goS b := by
  cases a with
  | nil => rfl
  | cons c r =>
    cases b with
    | nil => simp [goS]
    | cons d q => exact goC_app r (encB c) d q (hb d q rfl)
theorem PlT.nil : PlT [] [] := ⟨rfl, by simp, by intro c r h; cases h⟩
theorem PlT.app {t u : List UInt8} {a b : List Int} (ha : PlT t a) (hb : PlT u b) : PlT (t ++ u) (a ++ b) := by
  refine ⟨by rw [ha.eq, hb.eq, enc_app], fun c hc => (List.mem_append.1 hc).elim (ha.pl c) (hb.pl c), fun c r h => ?_⟩
  cases a with
  | nil => exact hb.hd c r h
  | cons x y => injection h with h1 h2; subst h1; exact ha.hd x y rfl
theorem split_app {t u : List UInt8} {a b : List Int} (ha : PlT t a) (hb : PlT u b) : splitS (t ++ u) = splitS t ++ splitS u := by
  rw [split_go (ha.app hb), split_go ha, split_go hb, goS_app hb.hd]
/-- plain, or nothing -/
def Pln (t : List UInt8) : Prop := ∃ cs, PlT t cs
theorem Pln.nil : Pln [] := ⟨[], PlT.nil⟩
theorem Pln.app {t u : List UInt8} (ha : Pln t) (hb : Pln u) : Pln (t ++ u) := by
  obtain ⟨a, ha⟩ := ha; obtain ⟨b, hb⟩ := hb; exact ⟨_, ha.app hb⟩
theorem Pln.split {t u : List UInt8} (ha : Pln t) (hb : Pln u) : splitS (t ++ u) = splitS t ++ splitS u := by
  obtain ⟨a, ha⟩ := ha; obtain ⟨b, hb⟩ := hb; exact split_app ha hb
end Go.Proofs.YthoicieckodneaaGreatDoor.Cls

/- A draft's items, plain laws: each text is plain; the clusters of all. No program. -/
namespace Go.Proofs.YthoicieckodneaaGreatDoor.Loc
open Go.RowKit Utf All Small Strs Build EncC Pat Cls Dec Go.Proofs.YthoicieckodneaaGreatDoor.Sys
set_option linter.unusedVariables false
set_option linter.unusedSimpArgs false

/-- all texts -/
def textI (l : List It) : List UInt8 := (l.map (·.2.1)).flatten
theorem textI_app (a b : List It) : textI (a ++ b) = textI a ++ textI b := by unfold textI; rw [List.map_append, List.flatten_append]
end Go.Proofs.YthoicieckodneaaGreatDoor.Loc

/- Where the caret may stand, plain laws. No program. -/
namespace Go.Proofs.YthoicieckodneaaGreatDoor.Loc
open Go.RowKit Utf All Small Strs Build EncC Pat Cls Dec Go.Proofs.YthoicieckodneaaGreatDoor.Sys
set_option linter.unusedVariables false
set_option linter.unusedSimpArgs false

/-- how many bytes the first k items have -/
def cum (L : List It) (k : Nat) : Nat := (textI (L.take k)).length
theorem textI_one (x : It) : textI [x] = x.2.1 := by unfold textI; simp
theorem cum_succ {L : List It} {k : Nat} {x : It} (h : L[k]? = some x) : cum L (k + 1) = cum L k + x.2.1.length := by
  unfold cum
  rw [List.take_add_one, h, textI_app, List.length_append]
  simp [textI]
theorem cum_over {L : List It} {k : Nat} (h : L.length ≤ k) : cum L k = (textI L).length := by
  unfold cum; rw [List.take_of_length_le h]
theorem cum_zero (L : List It) : cum L 0 = 0 := by unfold cum; simp [textI]
theorem cum_mono (L : List It) : ∀ (j k : Nat), j ≤ k → cum L j ≤ cum L k := by
  intro j k h
  obtain ⟨m, rfl⟩ := Nat.exists_eq_add_of_le h
  clear h
  induction m with
  | zero => exact Nat.le_refl _
  | succ m ih =>
    rw [← Nat.add_assoc]
    cases hx : L[j + m]? with
    | none =>
      have hl : L.length ≤ j + m := List.getElem?_eq_none_iff.1 hx
      rw [cum_over (show L.length ≤ j + m + 1 by omega), ← cum_over hl]; exact ih
    | some x => rw [cum_succ hx]; omega
theorem cum_le (L : List It) (k : Nat) : cum L k ≤ (textI L).length := by
  by_cases h : k ≤ L.length
  · rw [← cum_over (Nat.le_refl L.length)]; exact cum_mono L k L.length h
  · rw [cum_over (by omega)]; exact Nat.le_refl _
/-- is the k-th item an atom's? -/
def atK (L : List It) (k : Nat) : Bool := (L[k]?).any isAt
def stopB (L : List It) (k : Nat) : List Nat := if atK L k then [cum L (k + 1)] else []
def stopA (L : List It) (a k : Nat) : List Nat := (if k = a then [cum L k] else []) ++ stopB L k
def stopsTo (L : List It) (a k : Nat) : List Nat := (List.range k).flatMap (stopA L a)
def stopsP (L : List It) (a : Nat) : List Nat := stopsTo L a L.length ++ if L.length = a then [cum L L.length] else []
def bTo (L : List It) (k : Nat) : List Nat := (List.range k).flatMap (stopB L)
theorem stopsTo_succ (L : List It) (a k : Nat) : stopsTo L a (k + 1) = stopsTo L a k ++ stopA L a k := by
  unfold stopsTo; rw [List.range_succ, List.flatMap_append]; simp
theorem bTo_succ (L : List It) (k : Nat) : bTo L (k + 1) = bTo L k ++ stopB L k := by
  unfold bTo; rw [List.range_succ, List.flatMap_append]; simp
theorem bTo_len (L : List It) : ∀ k, (bTo L k).length = (L.take k).countP isAt
  | 0 => by simp [bTo]
  | k + 1 => by
    rw [bTo_succ, List.length_append, bTo_len L k, List.take_add_one, List.countP_append]
    congr 1
    unfold stopB atK
    cases hx : L[k]? with
    | none => simp
    | some x => cases ha : isAt x <;> simp [ha]
theorem stops_low {L : List It} {a : Nat} (h : ∀ k, k < a → atK L k = false) : ∀ k, k ≤ a → stopsTo L a k = [] ∧ bTo L k = []
  | 0, _ => ⟨rfl, rfl⟩
  | k + 1, hk => by
    obtain ⟨h1, h2⟩ := stops_low h k (by omega)
    have hb : stopB L k = [] := by unfold stopB; rw [h k (by omega)]; rfl
    rw [stopsTo_succ, bTo_succ, h1, h2]
    unfold stopA
    rw [hb, if_neg (by omega)]; exact ⟨rfl, rfl⟩
theorem stops_high {L : List It} {a : Nat} (h : ∀ k, k < a → atK L k = false) : ∀ m, stopsTo L a (a + m + 1) = cum L a :: bTo L (a + m + 1)
  | 0 => by
    obtain ⟨h1, h2⟩ := stops_low h a (Nat.le_refl _)
    show stopsTo L a (a + 1) = cum L a :: bTo L (a + 1)
    rw [stopsTo_succ, bTo_succ, h1, h2]
    unfold stopA
    rw [if_pos rfl]; rfl
  | m + 1 => by
    rw [show a + (m + 1) + 1 = a + m + 1 + 1 by omega, stopsTo_succ, stops_high h m, bTo_succ L (a + m + 1)]
    unfold stopA
    rw [if_neg (by omega)]; rfl
theorem stops_all {L : List It} {a : Nat} (h : ∀ k, k < a → atK L k = false) (ha : a ≤ L.length) : stopsP L a = cum L a :: bTo L L.length := by
  unfold stopsP
  rcases Nat.eq_or_lt_of_le ha with e | hlt
  · rw [if_pos e.symm, ← e, (stops_low h a (Nat.le_refl _)).1, (stops_low h a (Nat.le_refl _)).2]; rfl
  · obtain ⟨m, hm⟩ : ∃ m, L.length = a + m + 1 := ⟨L.length - a - 1, by omega⟩
    rw [if_neg (by omega), hm, stops_high h m, List.append_nil]
/-- the document's: the end of the last item whose atom is below k, among the first m items -/
def lastTo (L : List It) (k : Nat) : Nat → Nat
  | 0 => 0
  | m + 1 => if atK L m && decide ((L.take m).countP isAt < k) then cum L (m + 1) else lastTo L k m
theorem bTo_at (L : List It) : ∀ (m j : Nat), j < (L.take m).countP isAt → (bTo L m)[j]? = some (lastTo L (j + 1) m)
  | 0, j, h => by simp at h
  | m + 1, j, h => by
    have hl := bTo_len L m
    rw [bTo_succ]
    unfold lastTo
    have hc : (L.take (m + 1)).countP isAt = (L.take m).countP isAt + (if atK L m then 1 else 0) := by
      rw [List.take_add_one, List.countP_append]
      congr 1
      unfold atK
      cases hx : L[m]? with
      | none => simp
      | some x => cases ha : isAt x <;> simp [ha]
    rw [hc] at h
    by_cases hj : j < (L.take m).countP isAt
    · rw [List.getElem?_append_left (by omega), bTo_at L m j hj, if_neg]
      simp; intro _; omega
    · cases ha : atK L m
      · rw [ha] at h; simp at h; omega
      · rw [ha] at h; simp at h
        have e : j = (L.take m).countP isAt := by omega
        rw [List.getElem?_append_right (by omega), if_pos (by simp; omega)]
        unfold stopB
        rw [ha, hl, e]; simp
/-- the stops, number by number -/
def stopK (L : List It) (a k : Nat) : Nat := if k = 0 then cum L a else lastTo L k L.length
theorem stops_at {L : List It} {a : Nat} (h : ∀ k, k < a → atK L k = false) (ha : a ≤ L.length) : stopsP L a = (List.range (L.countP isAt + 1)).map (stopK L a) := by
  rw [stops_all h ha]
  apply List.ext_getElem?
  intro i
  have hc : (L.take L.length).countP isAt = L.countP isAt := by rw [List.take_length]
  cases i with
  | zero => simp [stopK]
  | succ i =>
    rw [List.getElem?_cons_succ]
    by_cases hi : i < L.countP isAt
    · rw [bTo_at L L.length i (by omega), List.getElem?_map, List.getElem?_range (by omega)]
      simp [stopK]
    · rw [List.getElem?_eq_none (by rw [bTo_len]; omega), List.getElem?_eq_none (by simp; omega)]
/-- they rise -/
theorem bTo_lt {L : List It} {k : Nat} : ∀ x ∈ bTo L k, x ≤ cum L k := by
  intro x hx
  unfold bTo at hx
  obtain ⟨i, hi, hx⟩ := List.mem_flatMap.1 hx
  have hi' := List.mem_range.1 hi
  unfold stopB at hx
  split at hx
  · rw [List.mem_singleton] at hx; subst hx; exact cum_mono L _ _ (by omega)
  · cases hx
theorem bTo_rise {L : List It} (hne : ∀ x ∈ L, isAt x = true → x.2.1 ≠ []) : ∀ k, (bTo L k).Pairwise (· < ·)
  | 0 => by simp [bTo]
  | k + 1 => by
    rw [bTo_succ, List.pairwise_append]
    refine ⟨bTo_rise hne k, ?_, fun x hx y hy => ?_⟩
    · unfold stopB; split <;> simp
    · unfold stopB atK at hy
      split at hy
      · rename_i ha
        rw [List.mem_singleton] at hy
        subst hy
        have h1 := bTo_lt x hx
        cases hz : L[k]? with
        | none => rw [hz] at ha; cases ha
        | some z =>
          rw [hz] at ha
          have h2 := List.length_pos_iff.2 (hne z (List.mem_of_getElem? hz) (by simpa using ha))
          rw [cum_succ hz]; omega
      · cases hy
theorem bTo_ge {L : List It} {a : Nat} (h : ∀ k, k < a → atK L k = false) (hne : ∀ x ∈ L, isAt x = true → x.2.1 ≠ []) : ∀ k, ∀ x ∈ bTo L k, cum L a < x := by
  intro k x hx
  unfold bTo at hx
  obtain ⟨i, hi, hx⟩ := List.mem_flatMap.1 hx
  unfold stopB at hx
  split at hx
  · rename_i ha
    rw [List.mem_singleton] at hx
    subst hx
    have hia : a ≤ i := by
      rcases Nat.lt_or_ge i a with hlt | hge
      · rw [h i hlt] at ha; cases ha
      · exact hge
    have h1 := cum_mono L a i hia
    unfold atK at ha
    cases hz : L[i]? with
    | none => rw [hz] at ha; cases ha
    | some z =>
      rw [hz] at ha
      have h2 := List.length_pos_iff.2 (hne z (List.mem_of_getElem? hz) (by simpa using ha))
      rw [cum_succ hz]; omega
  · cases hx
theorem stops_rise {L : List It} {a : Nat} (h : ∀ k, k < a → atK L k = false) (ha : a ≤ L.length) (hne : ∀ x ∈ L, isAt x = true → x.2.1 ≠ []) : (stopsP L a).Pairwise (· < ·) := by
  rw [stops_all h ha, List.pairwise_cons]
  exact ⟨fun x hx => bTo_ge h hne L.length x hx, bTo_rise hne _⟩
end Go.Proofs.YthoicieckodneaaGreatDoor.Loc

/- The nearest stop, the tag of a byte, the stops' places: plain laws. No program. -/
namespace Go.Proofs.YthoicieckodneaaGreatDoor.Loc
open Go.RowKit Utf All Small Strs Build EncC Pat Cls Dec Go.Proofs.YthoicieckodneaaGreatDoor.Sys
set_option linter.unusedVariables false
set_option linter.unusedSimpArgs false

end Go.Proofs.YthoicieckodneaaGreatDoor.Loc
