/- Joined by wip/join.py: EndsP ItP ItP2 SplP ItP3 VwP VwP2. -/
import Derived.Test.YthoicieckodneaaGreatDoorRows
import Derived.Test.YthoicieckodneaaGreatDoorJLocE
import Derived.Test.YthoicieckodneaaGreatDoorJLocD
import Derived.Test.YthoicieckodneaaGreatDoorJCls
import Derived.Test.YthoicieckodneaaGreatDoorJPat1
/- Where groups end, and how many: plain. No program. -/
namespace Go.Proofs.YthoicieckodneaaGreatDoor.Ends
set_option linter.unusedVariables false
set_option linter.unusedSimpArgs false

def itemEnds (l p s : Int) : Bool :=
  if l < 1 ∨ p < 1 ∨ l < p then false else if l = p then true else if 0 < s then decide ((l - p) % s = 0) else false

def groupsN (p s : Int) : Nat → Int
  | 0 => 0
  | k + 1 => groupsN p s k + if itemEnds k p s then 1 else 0
theorem groupsN_bd (p s : Int) : ∀ k : Nat, 0 ≤ groupsN p s k ∧ groupsN p s k ≤ k
  | 0 => by simp [groupsN]
  | k + 1 => by have := groupsN_bd p s k; unfold groupsN; split <;> omega
end Go.Proofs.YthoicieckodneaaGreatDoor.Ends

/- A draft's items, plain laws: what they are; the document's atom by atom. No program. -/
namespace Go.Proofs.YthoicieckodneaaGreatDoor.Loc
open Go.RowKit Utf All Small Strs Build EncC Pat Cls Dec Go.Proofs.YthoicieckodneaaGreatDoor.Sys
set_option linter.unusedVariables false
set_option linter.unusedSimpArgs false

/-- an item: its tag, its text, its atom -/
abbrev It := Int × List UInt8 × Int
def itV (x : It) : List Value := [.int .i64 x.1, .string ⟨x.2.1.toArray⟩, .int .i64 x.2.2]
def itsV (l : List It) : List Value := l.flatMap itV
theorem its_len (l : List It) : (itsV l).length = l.length * 3 := flat_len itV 3 (fun _ => rfl) l
theorem its_app (l m : List It) : itsV (l ++ m) = itsV l ++ itsV m := by unfold itsV; rw [List.flatMap_append]
/-- a draft -/
structure Dr where
  neg : Bool
  int : List Int
  sep : Bool
  frac : List Int
structure DrOk (d : Dr) : Prop where
  int : ∀ x ∈ d.int, 0 ≤ x ∧ x ≤ 9
  frac : ∀ x ∈ d.frac, 0 ≤ x ∧ x ≤ 9
  sep : d.sep = false → d.frac = []
def prtI (r : Rec) (p : Prt) : It := if p.1 then (1, r.minus, -1) else (0, p.2, -1)
def grpAt (l : Loc) (left : Int) : List It := if Ends.itemEnds left l.p.num.prim l.p.num.sec then [(3, l.r.group, -1)] else []
def digI (l : Loc) (x a : Int) : It := (2, digZ l x, a)
def intF (l : Loc) (xs : List Int) (i : Nat) : List It := digI l (xs.getD i 0) i :: grpAt l ((xs.length : Int) - 1 - i)
def intsTo (l : Loc) (xs : List Int) (k : Nat) : List It := (List.range k).flatMap (intF l xs)
def fracTo (l : Loc) (n : Nat) (ys : List Int) (k : Nat) : List It := (List.range k).map fun (i : Nat) => digI l (ys.getD i 0) ((n : Int) + 1 + i)
def decI (l : Loc) (d : Dr) : List It := if d.sep then [(4, l.r.decimal, (d.int.length : Int))] else []
def midF (l : Loc) (d : Dr) : List It := intsTo l d.int d.int.length ++ (decI l d ++ fracTo l d.int.length d.frac d.frac.length)
def itemsF (l : Loc) (d : Dr) : List It := (ahead l d.neg).map (prtI l.r) ++ (midF l d ++ (behind l d.neg).map (prtI l.r))
theorem intsTo_succ (l : Loc) (xs : List Int) (k : Nat) : intsTo l xs (k + 1) = intsTo l xs k ++ intF l xs k := by
  unfold intsTo; rw [List.range_succ, List.flatMap_append]; simp
theorem fracTo_succ (l : Loc) (n : Nat) (ys : List Int) (k : Nat) : fracTo l n ys (k + 1) = fracTo l n ys k ++ [digI l (ys.getD k 0) ((n : Int) + 1 + k)] := by
  unfold fracTo; rw [List.range_succ, List.map_append]; rfl
theorem fracTo_len (l : Loc) (n : Nat) (ys : List Int) (k : Nat) : (fracTo l n ys k).length = k := by unfold fracTo; simp
/-- its atoms -/
def atomsF (d : Dr) : List Int := d.int ++ ((if d.sep then [10] else []) ++ d.frac)
def atomAt (d : Dr) (i : Nat) : Int := (atomsF d).getD i 0
def refAt (l : Loc) (d : Dr) (i : Nat) : List It := if atomAt d i = 10 then [(4, l.r.decimal, (i : Int))] else digI l (atomAt d i) i :: grpAt l ((d.int.length : Int) - 1 - i)
def refTo (l : Loc) (d : Dr) (k : Nat) : List It := (List.range k).flatMap (refAt l d)
theorem refTo_succ (l : Loc) (d : Dr) (k : Nat) : refTo l d (k + 1) = refTo l d k ++ refAt l d k := by
  unfold refTo; rw [List.range_succ, List.flatMap_append]; simp
theorem atoms_len (d : Dr) : (atomsF d).length = d.int.length + ((if d.sep then 1 else 0) + d.frac.length) := by
  unfold atomsF; rw [List.length_append, List.length_append]; split <;> rfl
theorem atom_int {d : Dr} {i : Nat} (h : i < d.int.length) : atomAt d i = d.int.getD i 0 := by
  unfold atomAt atomsF
  rw [List.getD_eq_getElem?_getD, List.getD_eq_getElem?_getD, List.getElem?_append_left h]
theorem atom_dec {d : Dr} (h : d.sep = true) : atomAt d d.int.length = 10 := by
  unfold atomAt atomsF
  rw [List.getD_eq_getElem?_getD, List.getElem?_append_right (Nat.le_refl _), h]; simp
theorem atom_frac {d : Dr} (h : d.sep = true) (i : Nat) : atomAt d (d.int.length + 1 + i) = d.frac.getD i 0 := by
  unfold atomAt atomsF
  rw [List.getD_eq_getElem?_getD, List.getD_eq_getElem?_getD, List.getElem?_append_right (by omega), h, show d.int.length + 1 + i - d.int.length = i + 1 by omega]
  rfl
theorem getD_bd {xs : List Int} (h : ∀ x ∈ xs, 0 ≤ x ∧ x ≤ 9) {i : Nat} (hi : i < xs.length) : 0 ≤ xs.getD i 0 ∧ xs.getD i 0 ≤ 9 := by
  rw [List.getD_eq_getElem?_getD, List.getElem?_eq_getElem hi]; exact h _ (List.getElem_mem hi)
theorem grp_neg (l : Loc) {left : Int} (h : left < 1) : grpAt l left = [] := by
  have e : Ends.itemEnds left l.p.num.prim l.p.num.sec = false := by
    unfold Ends.itemEnds; exact if_pos (Or.inl h)
  unfold grpAt; rw [e]; rfl
theorem flatMap_eq {α β : Type} {f g : α → List β} : ∀ {l : List α}, (∀ a ∈ l, f a = g a) → l.flatMap f = l.flatMap g
  | [], _ => rfl
  | a :: l, h => by
    rw [List.flatMap_cons, List.flatMap_cons, h a List.mem_cons_self, flatMap_eq fun b hb => h b (List.mem_cons_of_mem _ hb)]
theorem ref_int {l : Loc} {d : Dr} (h : DrOk d) : refTo l d d.int.length = intsTo l d.int d.int.length := by
  unfold refTo intsTo
  refine flatMap_eq fun i hi => ?_
  have hi' : i < d.int.length := List.mem_range.1 hi
  have hb := getD_bd h.int hi'
  unfold refAt intF
  rw [atom_int hi', if_neg (by omega)]
theorem ref_mid {l : Loc} {d : Dr} (h : DrOk d) : refTo l d (atomsF d).length = midF l d := by
  unfold midF
  rw [atoms_len]
  cases hs : d.sep
  · have hf := h.sep hs
    rw [hf]
    simp only [Bool.false_eq_true, if_false, List.length_nil, Nat.add_zero]
    rw [ref_int h]
    unfold decI fracTo; rw [hs]; simp
  · simp only [if_true]
    have key : ∀ k, k ≤ d.frac.length → refTo l d (d.int.length + (1 + k)) = intsTo l d.int d.int.length ++ ([(4, l.r.decimal, (d.int.length : Int))] ++ fracTo l d.int.length d.frac k) := by
      intro k
      induction k with
      | zero =>
        intro _
        show refTo l d (d.int.length + 1) = _
        rw [refTo_succ, ref_int h]
        unfold refAt
        rw [atom_dec hs, if_pos rfl]
        simp [fracTo]
      | succ k ih =>
        intro hk
        rw [show d.int.length + (1 + (k + 1)) = d.int.length + (1 + k) + 1 by omega, refTo_succ, ih (by omega), fracTo_succ]
        have hb := getD_bd h.frac (show k < d.frac.length by omega)
        have ha := atom_frac hs k
        rw [show d.int.length + 1 + k = d.int.length + (1 + k) by omega] at ha
        unfold refAt
        rw [ha, if_neg (by omega), grp_neg l (by omega)]
        have e : ((d.int.length + (1 + k) : Nat) : Int) = (d.int.length : Int) + 1 + k := by omega
        rw [e]
        simp [List.append_assoc]
    rw [key d.frac.length (Nat.le_refl _)]
    unfold decI; rw [hs]; rfl
end Go.Proofs.YthoicieckodneaaGreatDoor.Loc

/- A draft's items, plain laws: their signs, their atoms, their groups. No program. -/
namespace Go.Proofs.YthoicieckodneaaGreatDoor.Loc
open Go.RowKit Utf All Small Strs Build EncC Pat Cls Dec Go.Proofs.YthoicieckodneaaGreatDoor.Sys
set_option linter.unusedVariables false
set_option linter.unusedSimpArgs false

/-! ### signs -/
def isSg (x : It) : Bool := x.1 == 1
theorem prt_sg (r : Rec) (ps : List Prt) : (ps.map (prtI r)).countP isSg = nSign ps := by
  unfold nSign
  induction ps with
  | nil => rfl
  | cons p ps ih =>
    rw [List.map_cons, List.countP_cons, List.countP_cons, ih]
    unfold prtI isSg
    cases hp : p.1 <;> simp
theorem grp_mem {l : Loc} {z : Int} {x : It} (h : x ∈ grpAt l z) : x = (3, l.r.group, -1) := by
  unfold grpAt at h
  split at h
  · simpa using h
  · cases h
theorem ints_mem {l : Loc} {xs : List Int} {k : Nat} {x : It} (h : x ∈ intsTo l xs k) : (∃ i, i < k ∧ x = digI l (xs.getD i 0) i) ∨ x = (3, l.r.group, -1) := by
  unfold intsTo at h
  obtain ⟨i, hi, hx⟩ := List.mem_flatMap.1 h
  unfold intF at hx
  rcases List.mem_cons.1 hx with rfl | hx
  · exact .inl ⟨i, List.mem_range.1 hi, rfl⟩
  · exact .inr (grp_mem hx)
theorem frac_mem {l : Loc} {n : Nat} {ys : List Int} {k : Nat} {x : It} (h : x ∈ fracTo l n ys k) : ∃ i, i < k ∧ x = digI l (ys.getD i 0) ((n : Int) + 1 + i) := by
  unfold fracTo at h
  obtain ⟨i, hi, rfl⟩ := List.mem_map.1 h
  exact ⟨i, List.mem_range.1 hi, rfl⟩
theorem mid_mem {l : Loc} {d : Dr} {x : It} (h : x ∈ midF l d) : (∃ v a, x = digI l v a) ∨ x = (3, l.r.group, -1) ∨ x = (4, l.r.decimal, (d.int.length : Int)) := by
  unfold midF at h
  rcases List.mem_append.1 h with h | h
  · rcases ints_mem h with ⟨i, _, rfl⟩ | rfl
    · exact .inl ⟨_, _, rfl⟩
    · exact .inr (.inl rfl)
  · rcases List.mem_append.1 h with h | h
    · unfold decI at h
      split at h
      · exact .inr (.inr (by simpa using h))
      · cases h
    · obtain ⟨i, _, rfl⟩ := frac_mem h
      exact .inl ⟨_, _, rfl⟩
theorem mid_sg (l : Loc) (d : Dr) : (midF l d).countP isSg = 0 := by
  rw [List.countP_eq_zero]
  intro x hx
  rcases mid_mem hx with ⟨v, a, rfl⟩ | rfl | rfl <;> simp [isSg, digI]
theorem items_sg (l : Loc) (d : Dr) : (itemsF l d).countP isSg = nSign (ahead l d.neg) + nSign (behind l d.neg) := by
  unfold itemsF
  rw [List.countP_append, List.countP_append, prt_sg, prt_sg, mid_sg]; omega
theorem items_minus {l : Loc} {d : Dr} {x : It} (h : x ∈ itemsF l d) (h1 : x.1 = 1) : x.2.1 = l.r.minus := by
  unfold itemsF at h
  have hp : ∀ ps : List Prt, x ∈ ps.map (prtI l.r) → x.2.1 = l.r.minus := fun ps hx => by
    obtain ⟨p, _, rfl⟩ := List.mem_map.1 hx
    unfold prtI at h1 ⊢
    cases hp : p.1
    · rw [hp] at h1; simp at h1
    · simp
  rcases List.mem_append.1 h with h | h
  · exact hp _ h
  · rcases List.mem_append.1 h with h | h
    · rcases mid_mem h with ⟨v, a, rfl⟩ | rfl | rfl <;> simp [digI] at h1
    · exact hp _ h
/-! ### atoms -/
def isAt (x : It) : Bool := x.1 == 2 || x.1 == 4
def atomI (l : Loc) (d : Dr) (j : Nat) : It := if atomAt d j = 10 then (4, l.r.decimal, (j : Int)) else digI l (atomAt d j) j
theorem grp_filter (l : Loc) (z : Int) : (grpAt l z).filter isAt = [] := by
  rw [List.filter_eq_nil_iff]
  intro x hx
  rw [grp_mem hx]; simp [isAt]
theorem ref_filter (l : Loc) (d : Dr) : ∀ k, (refTo l d k).filter isAt = (List.range k).map (atomI l d)
  | 0 => rfl
  | k + 1 => by
    rw [refTo_succ, List.filter_append, ref_filter l d k, List.range_succ, List.map_append]
    congr 1
    show (refAt l d k).filter isAt = [atomI l d k]
    unfold refAt atomI
    split
    · rfl
    · rw [List.filter_cons, grp_filter]
      simp [isAt, digI]
theorem prt_filter (r : Rec) (ps : List Prt) : (ps.map (prtI r)).filter isAt = [] := by
  rw [List.filter_eq_nil_iff]
  intro x hx
  obtain ⟨p, _, rfl⟩ := List.mem_map.1 hx
  unfold prtI isAt
  split <;> simp
theorem items_filter {l : Loc} {d : Dr} (h : DrOk d) : (itemsF l d).filter isAt = (List.range (atomsF d).length).map (atomI l d) := by
  unfold itemsF
  rw [List.filter_append, List.filter_append, prt_filter, prt_filter, ← ref_mid h, ref_filter]; simp
theorem items_none {l : Loc} {d : Dr} {x : It} (h : x ∈ itemsF l d) (ha : isAt x = false) : x.2.2 = -1 := by
  unfold itemsF at h
  have hp : ∀ ps : List Prt, x ∈ ps.map (prtI l.r) → x.2.2 = -1 := fun ps hx => by
    obtain ⟨p, _, rfl⟩ := List.mem_map.1 hx
    unfold prtI
    split <;> rfl
  rcases List.mem_append.1 h with h | h
  · exact hp _ h
  · rcases List.mem_append.1 h with h | h
    · rcases mid_mem h with ⟨v, a, rfl⟩ | rfl | rfl
      · simp [isAt, digI] at ha
      · rfl
      · simp [isAt] at ha
    · exact hp _ h
theorem filter_at {α : Type} (p : α → Bool) : ∀ (l : List α) (i : Nat) (x : α), l[i]? = some x → p x = true → (l.filter p)[(l.take i).countP p]? = some x
  | [], i, x, h, _ => by simp at h
  | a :: l, 0, x, h, hp => by
    simp at h; subst h
    rw [List.filter_cons, if_pos hp]; simp
  | a :: l, i + 1, x, h, hp => by
    have h' : l[i]? = some x := by simpa using h
    have ih := filter_at p l i x h' hp
    rw [List.filter_cons, List.take_succ_cons, List.countP_cons]
    cases ha : p a
    · simpa using ih
    · simpa using ih
/-- the i-th item: an atom's is that of the atom that has as many ahead -/
theorem items_at {l : Loc} {d : Dr} (h : DrOk d) {i : Nat} {x : It} (hx : (itemsF l d)[i]? = some x) (ha : isAt x = true) :
    ((itemsF l d).take i).countP isAt < (atomsF d).length ∧ x = atomI l d (((itemsF l d).take i).countP isAt) := by
  have h1 := filter_at isAt _ i x hx ha
  rw [items_filter h] at h1
  have hlt := (List.getElem?_eq_some_iff.1 h1).1
  simp at hlt
  rw [List.getElem?_map, List.getElem?_range hlt] at h1
  exact ⟨hlt, (Option.some.inj h1).symm⟩
theorem items_count {l : Loc} {d : Dr} (h : DrOk d) : (itemsF l d).countP isAt = (atomsF d).length := by
  rw [List.countP_eq_length_filter, items_filter h]; simp
/-! ### groups -/
def isGr (x : It) : Bool := x.1 == 3
/-- each group stands between two digits -/
def Between (L : List It) : Prop := ∀ (i : Nat) (x : It), L[i]? = some x → x.1 = 3 → 0 < i ∧ (∃ y : It, L[i - 1]? = some y ∧ y.1 = 2) ∧ ∃ z : It, L[i + 1]? = some z ∧ z.1 = 2
theorem Between.none {L : List It} (h : ∀ x ∈ L, x.1 ≠ 3) : Between L := fun i x hx h3 => absurd h3 (h x (List.mem_of_getElem? hx))
theorem Between.app {A B : List It} (ha : Between A) (hb : Between B) : Between (A ++ B) := by
  intro i x hx h3
  by_cases hi : i < A.length
  · rw [List.getElem?_append_left hi] at hx
    obtain ⟨h0, ⟨y, hy, hy2⟩, z, hz, hz2⟩ := ha i x hx h3
    have hz' := (List.getElem?_eq_some_iff.1 hz).1
    exact ⟨h0, ⟨y, by rw [List.getElem?_append_left (by omega)]; exact hy, hy2⟩, z, by rw [List.getElem?_append_left hz']; exact hz, hz2⟩
  · rw [List.getElem?_append_right (by omega)] at hx
    obtain ⟨h0, ⟨y, hy, hy2⟩, z, hz, hz2⟩ := hb _ x hx h3
    refine ⟨by omega, ⟨y, ?_, hy2⟩, z, ?_, hz2⟩
    · rw [List.getElem?_append_right (by omega), show i - 1 - A.length = i - A.length - 1 by omega]; exact hy
    · rw [List.getElem?_append_right (by omega), show i + 1 - A.length = i - A.length + 1 by omega]; exact hz
theorem Between.grp {A : List It} {u g v : It} (ha : Between (A ++ [u])) (hu : u.1 = 2) (hv : v.1 = 2) : Between (A ++ [u] ++ [g, v]) := by
  intro i x hx h3
  by_cases hi : i < (A ++ [u]).length
  · rw [List.getElem?_append_left hi] at hx
    obtain ⟨h0, ⟨y, hy, hy2⟩, z, hz, hz2⟩ := ha i x hx h3
    have hz' := (List.getElem?_eq_some_iff.1 hz).1
    exact ⟨h0, ⟨y, by rw [List.getElem?_append_left (by omega)]; exact hy, hy2⟩, z, by rw [List.getElem?_append_left hz']; exact hz, hz2⟩
  · rw [List.getElem?_append_right (by omega)] at hx
    have hlen : (A ++ [u]).length = A.length + 1 := by simp
    have hb := (List.getElem?_eq_some_iff.1 hx).1
    simp at hb
    rcases (by omega : i - (A ++ [u]).length = 0 ∨ i - (A ++ [u]).length = 1) with h | h
    · refine ⟨by omega, ⟨u, ?_, hu⟩, v, ?_, hv⟩
      · rw [List.getElem?_append_left (by omega), List.getElem?_append_right (by omega), show i - 1 - A.length = 0 by omega]; rfl
      · rw [List.getElem?_append_right (by omega), show i + 1 - (A ++ [u]).length = 1 by omega]; rfl
    · rw [h] at hx
      simp at hx
      subst hx
      omega
theorem ints_between (l : Loc) (xs : List Int) : ∀ k, Between (intsTo l xs k ++ [digI l (xs.getD k 0) k])
  | 0 => Between.none (by intro x hx; simp [intsTo] at hx; subst hx; simp [digI])
  | k + 1 => by
    have ih := ints_between l xs k
    rw [intsTo_succ]
    unfold intF
    have e : intsTo l xs k ++ (digI l (xs.getD k 0) (k : Int) :: grpAt l ((xs.length : Int) - 1 - k)) ++ [digI l (xs.getD (k + 1) 0) ((k + 1 : Nat) : Int)] = (intsTo l xs k ++ [digI l (xs.getD k 0) k]) ++ (grpAt l ((xs.length : Int) - 1 - k) ++ [digI l (xs.getD (k + 1) 0) ((k + 1 : Nat) : Int)]) := by simp
    rw [e]
    unfold grpAt
    split
    · exact Between.grp ih rfl rfl
    · exact Between.app ih (Between.none (by intro x hx; simp at hx; subst hx; simp [digI]))
theorem items_between (l : Loc) (d : Dr) : Between (itemsF l d) := by
  have hp : ∀ ps : List Prt, Between (ps.map (prtI l.r)) := fun ps => Between.none fun x hx => by
    obtain ⟨p, _, rfl⟩ := List.mem_map.1 hx
    unfold prtI
    split <;> simp
  have hi : Between (intsTo l d.int d.int.length) := by
    cases hn : d.int.length with
    | zero => exact Between.none (by intro x hx; simp [intsTo] at hx)
    | succ m =>
      rw [intsTo_succ]
      unfold intF
      rw [grp_neg l (by omega)]
      exact ints_between l d.int m
  unfold itemsF midF
  refine Between.app (hp _) (Between.app (Between.app hi (Between.app ?_ ?_)) (hp _))
  · unfold decI
    split
    · exact Between.none (by intro x hx; simp at hx; subst hx; simp)
    · exact Between.none (by simp)
  · exact Between.none fun x hx => by
      obtain ⟨i, _, rfl⟩ := frac_mem hx
      simp [digI]
theorem grp_count (l : Loc) (z : Int) : (grpAt l z).countP isGr = if Ends.itemEnds z l.p.num.prim l.p.num.sec then 1 else 0 := by
  unfold grpAt
  split <;> simp [isGr]
theorem ints_count (l : Loc) (xs : List Int) : ∀ k, k ≤ xs.length → ((intsTo l xs k).countP isGr : Int) + Ends.groupsN l.p.num.prim l.p.num.sec (xs.length - k) = Ends.groupsN l.p.num.prim l.p.num.sec xs.length
  | 0, _ => by simp [intsTo]
  | k + 1, hk => by
    have ih := ints_count l xs k (by omega)
    obtain ⟨m, hm⟩ : ∃ m, xs.length - k = m + 1 := ⟨xs.length - k - 1, by omega⟩
    rw [hm] at ih
    rw [show xs.length - (k + 1) = m by omega, intsTo_succ, List.countP_append]
    unfold intF
    rw [List.countP_cons, grp_count]
    have e : (xs.length : Int) - 1 - k = (m : Int) := by omega
    rw [e]
    have hd : isGr (digI l (xs.getD k 0) (k : Int)) = false := rfl
    rw [hd]
    have hs : Ends.groupsN l.p.num.prim l.p.num.sec (m + 1) = Ends.groupsN l.p.num.prim l.p.num.sec m + if Ends.itemEnds (m : Int) l.p.num.prim l.p.num.sec = true then 1 else 0 := rfl
    rw [hs] at ih
    split at ih <;> rename_i hE
    · rw [if_pos hE]; simp; omega
    · rw [if_neg hE]; simp; omega
theorem items_groups (l : Loc) (d : Dr) : ((itemsF l d).countP isGr : Int) = Ends.groupsN l.p.num.prim l.p.num.sec d.int.length := by
  have h := ints_count l d.int d.int.length (Nat.le_refl _)
  rw [Nat.sub_self] at h
  have hz : ∀ L : List It, (∀ x ∈ L, x.1 ≠ 3) → L.countP isGr = 0 := fun L hL => by
    rw [List.countP_eq_zero]
    intro x hx
    have := hL x hx
    simp [isGr, this]
  have hp : ∀ ps : List Prt, (ps.map (prtI l.r)).countP isGr = 0 := fun ps => hz _ fun x hx => by
    obtain ⟨p, _, rfl⟩ := List.mem_map.1 hx
    unfold prtI
    split <;> simp
  have hd : (decI l d).countP isGr = 0 := hz _ fun x hx => by
    unfold decI at hx
    split at hx
    · simp at hx; subst hx; simp
    · cases hx
  have hf : (fracTo l d.int.length d.frac d.frac.length).countP isGr = 0 := hz _ fun x hx => by
    obtain ⟨i, _, rfl⟩ := frac_mem hx
    simp [digI]
  unfold itemsF midF
  simp only [List.countP_append, hp, hd, hf]
  have h0 : Ends.groupsN l.p.num.prim l.p.num.sec 0 = 0 := rfl
  rw [h0] at h
  omega
end Go.Proofs.YthoicieckodneaaGreatDoor.Loc

/- Clusters of plain texts, side by side. No program. -/
namespace Go.Proofs.YthoicieckodneaaGreatDoor.Cls
open All Utf Dec EncC
set_option linter.unusedVariables false
set_option linter.unusedSimpArgs false

/-- a valid text is that of its characters -/
theorem ok_enc {l : List UInt8} (h0 : l ≠ []) (h : okL l = true) : encB (dec l).1 = l.take (dec l).2 := by
  by_cases hn : ∃ n, 1 ≤ n ∧ n ≤ 4 ∧ n ≤ l.length ∧ isEnc l n = true
  · obtain ⟨n, h1, h4, hl, he⟩ := hn
    rw [(dec_of_enc l n h1 h4 hl he).1]
    unfold isEnc at he
    exact of_decide_eq_true he
  · have := (dec_of_none l h0 fun n h1 h4 hl => by
      cases he : isEnc l n
      · rfl
      · exact absurd ⟨n, h1, h4, hl, he⟩ hn).2
    rw [this] at h; cases h
theorem valid_flat : ∀ (n : Nat) (l : List UInt8), l.length ≤ n → validL l = true → l = (charsL l).flatMap encB
  | 0, l, h, _ => by
    have : l = [] := List.eq_nil_of_length_eq_zero (by omega)
    subst this; rfl
  | n + 1, l, h, hv => by
    by_cases h0 : l = []
    · subst h0; rfl
    · have hw := dec_width h0
      rw [valid_cons h0, Bool.and_eq_true] at hv
      have ih := valid_flat n (l.drop (dec l).2) (by rw [List.length_drop]; omega) hv.2
      rw [chars_cons h0, List.flatMap_cons, ok_enc h0 hv.1, ← ih, List.take_append_drop]
def enc (cs : List Int) : List UInt8 := cs.flatMap encB
theorem enc_app (a b : List Int) : enc (a ++ b) = enc a ++ enc b := List.flatMap_append
theorem enc_cons (c : Int) (r : List Int) : enc (c :: r) = encB c ++ enc r := rfl
def posL : Int → List Int → List Int
  | _, [] => []
  | p, c :: r => p :: posL (p + (encB c).length) r
theorem starts_enc : ∀ (cs : List Int) (p : Int), (∀ c ∈ cs, mayC c = true) → startsP p (pieces (enc cs)) = posL p cs
  | [], _, _ => rfl
  | c :: r, p, h => by
    have hc := h c List.mem_cons_self
    have hl := encB_len hc
    have hne : enc (c :: r) ≠ [] := by
      rw [enc_cons]; intro e
      have := congrArg List.length e
      rw [List.length_append] at this
      simp only [List.length_nil] at this
      omega
    have hd := (dec_enc hc (enc r)).1
    rw [starts_cons hne, enc_cons, hd]
    show p :: startsP (p + (encB c).length) (pieces ((encB c ++ enc r).drop (encB c).length)) = _
    rw [List.drop_left, starts_enc r _ fun x hx => h x (List.mem_cons_of_mem _ hx)]; rfl
theorem chars_encf (cs : List Int) (h : ∀ c ∈ cs, mayC c = true) : charsL (enc cs) = cs := by
  have := chars_encs cs [] h
  rw [List.append_nil] at this
  unfold enc; rw [this]
  show cs ++ charsL [] = cs
  have e : charsL [] = [] := rfl
  rw [e, List.append_nil]
/-- plain characters: each of class 0 or 4 -/
def PlC (c : Int) : Prop := mayC c = true ∧ (clsZ c = 0 ∨ clsZ c = 4)
/-- the clusters behind a piece of one -/
def goC (u : List UInt8) : List Int → List (List UInt8)
  | [] => [u]
  | c :: r => if clsZ c = 4 then goC (u ++ encB c) r else u :: goC (encB c) r
theorem join_plain {l : Int} {rk : List Int} {k : Int} (hl : l = 0 ∨ l = 4) (hk : k = 0 ∨ k = 4) : joinS (l :: rk) k = decide (k = 4) := by
  rcases hl with rfl | rfl <;> rcases hk with rfl | rfl <;> rfl
theorem cuts_go : ∀ (cs : List Int) (x u : List UInt8) (rk : List Int) (l : Int) (s : List UInt8), (l = 0 ∨ l = 4) → (∀ c ∈ cs, PlC c) → s = x ++ (u ++ enc cs) →
    cutsL s ((x.length : Int) :: (stG (l :: rk) cs (posL ((x.length : Int) + u.length) cs) ++ [(s.length : Int)])) = goC u cs
  | [], x, u, rk, l, s, hl, _, hs => by
    have hs' : s = x ++ u := by rw [hs]; simp [enc]
    subst hs'
    show [((x ++ u).drop (x.length : Int).toNat).take (((x ++ u).length : Int).toNat - (x.length : Int).toNat)] = [u]
    rw [Int.toNat_natCast, Int.toNat_natCast, List.drop_left, List.length_append, Nat.add_sub_cancel_left, List.take_length]
  | c :: r, x, u, rk, l, s, hl, hc, hs => by
    have hcc := hc c List.mem_cons_self
    have hr : ∀ d ∈ r, PlC d := fun d hd => hc d (List.mem_cons_of_mem _ hd)
    unfold stG posL goC
    rw [join_plain hl hcc.2]
    by_cases h4 : clsZ c = 4
    · rw [if_pos (decide_eq_true h4), if_pos h4]
      have ih := cuts_go r x (u ++ encB c) (l :: rk) (clsZ c) s (.inr h4) hr (by rw [hs, enc_cons]; simp)
      rw [List.length_append] at ih
      have e : (x.length : Int) + ((u.length + (encB c).length : Nat) : Int) = (x.length : Int) + u.length + (encB c).length := by omega
      rw [e] at ih
      exact ih
    · have h0 : clsZ c = 0 := hcc.2.resolve_right h4
      rw [if_neg (by simp [h4]), if_neg h4]
      have ih := cuts_go r (x ++ u) (encB c) (l :: rk) (clsZ c) s (.inl h0) hr (by rw [hs, enc_cons]; simp)
      rw [List.length_append] at ih
      have e : ((x.length + u.length : Nat) : Int) = (x.length : Int) + u.length := by omega
      rw [e] at ih
      show ((s.drop (x.length : Int).toNat).take (((x.length : Int) + u.length).toNat - (x.length : Int).toNat)) :: _ = _
      refine congr (congrArg List.cons ?_) ih
      rw [Int.toNat_natCast, show ((x.length : Int) + u.length).toNat - x.length = u.length by omega, hs, List.drop_left, List.take_left]
/-- a plain text: its characters; the first one is of class 0 -/
structure PlT (t : List UInt8) (cs : List Int) : Prop where
  eq : t = enc cs
  pl : ∀ c ∈ cs, PlC c
  hd : ∀ c r, cs = c :: r → clsZ c = 0
def goS : List Int → List (List UInt8)
  | [] => []
  | c :: r => goC (encB c) r
theorem split_go {t : List UInt8} {cs : List Int} (h : PlT t cs) : splitS t = goS cs := by
  have hm : ∀ c ∈ cs, mayC c = true := fun c hc => (h.pl c hc).1
  rw [h.eq]
  unfold splitS cstL startsL
  rw [chars_encf cs hm, starts_enc cs 0 hm]
  cases cs with
  | nil => rfl
  | cons c r =>
    have h0 := h.hd c r rfl
    have hg := cuts_go r [] (encB c) [] (clsZ c) (enc (c :: r)) (.inl h0) (fun d hd => h.pl d (List.mem_cons_of_mem _ hd)) rfl
    unfold stG posL goS
    have hj : joinS [] (clsZ c) = false := rfl
    rw [hj]
    simp only [List.length_nil] at hg
    have e : ((0 : Nat) : Int) + ((encB c).length : Int) = 0 + ((encB c).length : Int) := rfl
    exact hg
theorem goC_cons (u : List UInt8) (c : Int) (r : List Int) : goC u (c :: r) = if clsZ c = 4 then goC (u ++ encB c) r else u :: goC (encB c) r := rfl
theorem goC_app : ∀ (r : List Int) (u : List UInt8) (c : Int) (q : List Int), clsZ c = 0 → goC u (r ++ c :: q) = goC u r ++ goC (encB c) q
  | [], u, c, q, h => by
    rw [List.nil_append, goC_cons, if_neg (by omega)]; rfl
  | d :: r, u, c, q, h => by
    rw [List.cons_append, goC_cons, goC_cons u d r]
    split
    · exact goC_app r _ c q h
    · rw [goC_app r _ c q h]; rfl
theorem goS_app {a b : List Int} (hb : ∀ c r, b = c :: r → clsZ c = 0) : goS (a ++ b) = goS a ++ goS b := by
  cases a with
  | nil => rfl
  | cons c r =>
    cases b with
    | nil => simp [goS]
    | cons d q => exact goC_app r (encB c) d q (hb d q rfl)
theorem PlT.nil : PlT [] [] := ⟨rfl, by simp, by intro c r h; cases h⟩
theorem PlT.app {t u : List UInt8} {a b : List Int} (ha : PlT t a) (hb : PlT u b) : PlT (t ++ u) (a ++ b) := by
  refine ⟨by rw [ha.eq, hb.eq, enc_app], fun c hc => (List.mem_append.1 hc).elim (ha.pl c) (hb.pl c), fun c r h => ?_⟩
  cases a with
  | nil => exact hb.hd c r h
  | cons x y => injection h with h1 h2; subst h1; exact ha.hd x y rfl
theorem split_app {t u : List UInt8} {a b : List Int} (ha : PlT t a) (hb : PlT u b) : splitS (t ++ u) = splitS t ++ splitS u := by
  rw [split_go (ha.app hb), split_go ha, split_go hb, goS_app hb.hd]
/-- plain, or nothing -/
def Pln (t : List UInt8) : Prop := ∃ cs, PlT t cs
theorem Pln.nil : Pln [] := ⟨[], PlT.nil⟩
theorem Pln.app {t u : List UInt8} (ha : Pln t) (hb : Pln u) : Pln (t ++ u) := by
  obtain ⟨a, ha⟩ := ha; obtain ⟨b, hb⟩ := hb; exact ⟨_, ha.app hb⟩
theorem Pln.split {t u : List UInt8} (ha : Pln t) (hb : Pln u) : splitS (t ++ u) = splitS t ++ splitS u := by
  obtain ⟨a, ha⟩ := ha; obtain ⟨b, hb⟩ := hb; exact split_app ha hb
theorem Pln.flat {ts : List (List UInt8)} (h : ∀ t ∈ ts, Pln t) : Pln ts.flatten ∧ splitS ts.flatten = ts.flatMap splitS := by
  induction ts with
  | nil => exact ⟨Pln.nil, rfl⟩
  | cons t r ih =>
    obtain ⟨h1, h2⟩ := ih fun x hx => h x (List.mem_cons_of_mem _ hx)
    have ht := h t List.mem_cons_self
    exact ⟨ht.app h1, by rw [List.flatten_cons, ht.split h1, h2, List.flatMap_cons]⟩
theorem plainR_mem : ∀ {cs : List Int}, plainR cs = true → ∀ c ∈ cs, clsZ c = 0 ∨ clsZ c = 4
  | [], _, c, h => by cases h
  | d :: r, hp, c, h => by
    unfold plainR at hp
    simp only [Bool.and_eq_true, Bool.or_eq_true, beq_iff_eq] at hp
    rcases List.mem_cons.1 h with rfl | h
    · exact hp.1
    · exact plainR_mem hp.2 c h
theorem pln_of {t : List UInt8} (hv : validL t = true) (hp : plainL (charsL t) = true) : Pln t := by
  refine ⟨charsL t, valid_flat _ t (Nat.le_refl _) hv, fun c hc => ⟨charsL_may t c hc, ?_⟩, fun c r h => ?_⟩
  · cases hcs : charsL t with
    | nil => rw [hcs] at hc; cases hc
    | cons d r =>
      rw [hcs] at hc hp
      unfold plainL at hp
      simp only [Bool.and_eq_true, beq_iff_eq] at hp
      rcases List.mem_cons.1 hc with rfl | hc
      · exact .inl hp.1
      · exact plainR_mem hp.2 c hc
  · rw [h] at hp
    unfold plainL at hp
    simp only [Bool.and_eq_true, beq_iff_eq] at hp
    exact hp.1
end Go.Proofs.YthoicieckodneaaGreatDoor.Cls

/- A draft's items, plain laws: each text is plain; the clusters of all. No program. -/
namespace Go.Proofs.YthoicieckodneaaGreatDoor.Loc
open Go.RowKit Utf All Small Strs Build EncC Pat Cls Dec Go.Proofs.YthoicieckodneaaGreatDoor.Sys
set_option linter.unusedVariables false
set_option linter.unusedSimpArgs false

theorem pln_word {t : List UInt8} (h : wordL t = true) : Pln t := by
  unfold wordL at h
  simp only [Bool.and_eq_true, decide_eq_true_eq] at h
  exact pln_of h.1.2 h.2
theorem pln_sym {t : List UInt8} (h : symL t = true) : Pln t := by
  unfold symL at h
  rw [Bool.and_eq_true] at h
  exact pln_word h.1
theorem digs_cls : ∀ s ∈ names, ∀ k : Fin 10, clsZ (zeroZ s + (k.val : Int)) = 0 ∧ mayC (zeroZ s + (k.val : Int)) = true := by decide +kernel
theorem pln_dig {r : Rec} {p : Pt} (h : Both r p) {x : Int} (h0 : 0 ≤ x) (h9 : x ≤ 9) : Pln (digZ (locOf r p) x) := by
  obtain ⟨k, rfl⟩ := Int.eq_ofNat_of_zero_le h0
  have hk : k < 10 := by omega
  rw [dig_k h hk]
  obtain ⟨h1, h2⟩ := digs_cls _ h.may.sys ⟨k, hk⟩
  refine ⟨[zeroZ ⟨r.system.toArray⟩ + (k : Int)], by simp [enc], fun c hc => ?_, fun c q e => ?_⟩
  · rw [List.mem_singleton] at hc; subst hc; exact ⟨h2, .inl h1⟩
  · injection e with e1 e2; subst e1; exact h1
theorem pln_piece {r : Rec} {p : Pt} (h : Both r p) {q : List Pc} (hq : q ∈ affsP p) {x : Pc} (hx : x ∈ q) : Pln (txtL (locOf r p) [x]) := by
  have hk := h.pcs q hq x hx
  have hc : ∀ n : Int, x.1 = n → cntA n (locOf r p) ≠ 0 := fun n hn e => by
    have h1 : 0 < cntK n q := by
      unfold cntK
      exact List.countP_pos_iff.2 ⟨x, hx, by unfold isK; simp [hn]⟩
    unfold cntA at e
    have e' : cntK n p.pre + cntK n p.suf + cntK n p.npre + cntK n p.nsuf = 0 := e
    unfold affsP at hq
    simp only [List.mem_cons, List.not_mem_nil, or_false] at hq
    rcases hq with rfl | rfl | rfl | rfl <;> omega
  have ht : txtL (locOf r p) [x] = if x.1 = 1 then r.currency else if x.1 = 2 then r.percent else if x.1 = 3 then [] else x.2 := by
    unfold txtL resF; simp [locOf]
  rw [ht]
  split
  · rename_i h1
    rcases h.may.cur with hw | ⟨_, he⟩
    · exact pln_word hw
    · exact absurd he (hc 1 h1)
  · split
    · rename_i _ h2
      rcases h.may.per with hw | ⟨_, he⟩
      · exact pln_word hw
      · exact absurd he (hc 2 h2)
    · split
      · exact Pln.nil
      · exact pln_of (h.val q hq x hx) (h.may.lit q hq x hx (by omega))
theorem pln_st {r : Rec} {p : Pt} (h : Both r p) {q : List Pc} (hq : q ∈ affsP p) : ∀ (l : List Pc) (st : List Prt × List UInt8), (∀ x ∈ l, x ∈ q) → (∀ y ∈ st.1, Pln y.2) → Pln st.2 → (∀ y ∈ (l.foldl (stepR (locOf r p)) st).1, Pln y.2) ∧ Pln (l.foldl (stepR (locOf r p)) st).2
  | [], st, _, h1, h2 => ⟨h1, h2⟩
  | x :: l, st, hs, h1, h2 => by
    rw [List.foldl_cons]
    refine pln_st h hq l _ (fun y hy => hs y (List.mem_cons_of_mem _ hy)) ?_ ?_
    · unfold stepR
      split
      · intro y hy
        rcases List.mem_append.1 hy with hy | hy
        · split at hy
          · exact h1 y hy
          · rcases List.mem_append.1 hy with hy | hy
            · exact h1 y hy
            · rw [List.mem_singleton] at hy; subst hy; exact h2
        · rw [List.mem_singleton] at hy; subst hy; exact Pln.nil
      · exact h1
    · unfold stepR
      split
      · exact Pln.nil
      · exact h2.app (pln_piece h hq (hs x List.mem_cons_self))
theorem pln_parts {r : Rec} {p : Pt} (h : Both r p) {q : List Pc} (hq : q ∈ affsP p) : ∀ y ∈ partsF (locOf r p) q, Pln y.2 := by
  obtain ⟨h1, h2⟩ := pln_st h hq q ([], []) (fun _ hx => hx) (by simp) Pln.nil
  rw [parts_fin]
  unfold finR stR
  split
  · exact h1
  · intro y hy
    rcases List.mem_append.1 hy with hy | hy
    · exact h1 y hy
    · rw [List.mem_singleton] at hy; subst hy; exact h2
theorem grp_sym {r : Rec} {p : Pt} (h : Both r p) (hz : grpZ (locOf r p) = true) : symL r.group = true := by
  have hg : if grpZ (locOf r p) = true then symL r.group = true else r.group = [] := h.may.grp
  rw [if_pos hz] at hg; exact hg
theorem ends_grp {l : Loc} {z : Int} (h : Ends.itemEnds z l.p.num.prim l.p.num.sec = true) : grpZ l = true := by
  unfold grpZ
  rw [decide_eq_true_eq]
  unfold Ends.itemEnds at h
  split at h
  · cases h
  · omega
theorem dr_val {l : Loc} {d : Dr} (h : DrOk d) {x : It} (hx : x ∈ midF l d) : (∃ v a, 0 ≤ v ∧ v ≤ 9 ∧ x = digI l v a) ∨ (grpZ l = true ∧ x = (3, l.r.group, -1)) ∨ x = (4, l.r.decimal, (d.int.length : Int)) := by
  unfold midF at hx
  rcases List.mem_append.1 hx with hx | hx
  · unfold intsTo at hx
    obtain ⟨i, hi, hx⟩ := List.mem_flatMap.1 hx
    have hb := getD_bd h.int (List.mem_range.1 hi)
    unfold intF at hx
    rcases List.mem_cons.1 hx with rfl | hx
    · exact .inl ⟨_, _, hb.1, hb.2, rfl⟩
    · refine .inr (.inl ⟨?_, grp_mem hx⟩)
      unfold grpAt at hx
      split at hx
      · exact ends_grp (by assumption)
      · cases hx
  · rcases List.mem_append.1 hx with hx | hx
    · unfold decI at hx
      split at hx
      · exact .inr (.inr (by simpa using hx))
      · cases hx
    · unfold fracTo at hx
      obtain ⟨i, hi, rfl⟩ := List.mem_map.1 hx
      have hb := getD_bd h.frac (List.mem_range.1 hi)
      exact .inl ⟨_, _, hb.1, hb.2, rfl⟩
theorem pln_items {r : Rec} {p : Pt} (h : Both r p) {d : Dr} (hd : DrOk d) : ∀ x ∈ itemsF (locOf r p) d, Pln x.2.1 := by
  intro x hx
  have hp : ∀ q ∈ affsP p, x ∈ (partsF (locOf r p) q).map (prtI r) → Pln x.2.1 := fun q hq hx => by
    obtain ⟨y, hy, rfl⟩ := List.mem_map.1 hx
    unfold prtI
    split
    · exact pln_sym h.may.min
    · exact pln_parts h hq y hy
  unfold itemsF at hx
  rcases List.mem_append.1 hx with hx | hx
  · unfold ahead at hx
    cases hn : d.neg
    · rw [hn] at hx; exact hp p.pre (by simp [affsP]) hx
    · rw [hn] at hx; exact hp p.npre (by simp [affsP]) hx
  · rcases List.mem_append.1 hx with hx | hx
    · rcases dr_val hd hx with ⟨v, a, h0, h9, rfl⟩ | ⟨hz, rfl⟩ | rfl
      · exact pln_dig h h0 h9
      · exact pln_sym (grp_sym h hz)
      · exact pln_sym h.may.dec
    · unfold behind at hx
      cases hn : d.neg
      · rw [hn] at hx; exact hp p.suf (by simp [affsP]) hx
      · rw [hn] at hx; exact hp p.nsuf (by simp [affsP]) hx
/-- all texts -/
def textI (l : List It) : List UInt8 := (l.map (·.2.1)).flatten
theorem textI_app (a b : List It) : textI (a ++ b) = textI a ++ textI b := by unfold textI; rw [List.map_append, List.flatten_append]
theorem items_split {r : Rec} {p : Pt} (h : Both r p) {d : Dr} (hd : DrOk d) : splitS (textI (itemsF (locOf r p) d)) = (itemsF (locOf r p) d).flatMap fun x => splitS x.2.1 := by
  have hf := (Pln.flat (ts := (itemsF (locOf r p) d).map (·.2.1)) fun t ht => by
    obtain ⟨x, hx, rfl⟩ := List.mem_map.1 ht
    exact pln_items h hd x hx).2
  unfold textI
  rw [hf, List.flatMap_map]
end Go.Proofs.YthoicieckodneaaGreatDoor.Loc

/- Where the caret may stand, plain laws. No program. -/
namespace Go.Proofs.YthoicieckodneaaGreatDoor.Loc
open Go.RowKit Utf All Small Strs Build EncC Pat Cls Dec Go.Proofs.YthoicieckodneaaGreatDoor.Sys
set_option linter.unusedVariables false
set_option linter.unusedSimpArgs false

/-- how many bytes the first k items have -/
def cum (L : List It) (k : Nat) : Nat := (textI (L.take k)).length
theorem textI_cons (x : It) (L : List It) : textI (x :: L) = x.2.1 ++ textI L := rfl
theorem textI_one (x : It) : textI [x] = x.2.1 := by unfold textI; simp
theorem cum_succ {L : List It} {k : Nat} {x : It} (h : L[k]? = some x) : cum L (k + 1) = cum L k + x.2.1.length := by
  unfold cum
  rw [List.take_add_one, h, textI_app, List.length_append]
  simp [textI]
theorem cum_over {L : List It} {k : Nat} (h : L.length ≤ k) : cum L k = (textI L).length := by
  unfold cum; rw [List.take_of_length_le h]
theorem cum_zero (L : List It) : cum L 0 = 0 := by unfold cum; simp [textI]
theorem cum_mono (L : List It) : ∀ (j k : Nat), j ≤ k → cum L j ≤ cum L k := by
  intro j k h
  obtain ⟨m, rfl⟩ := Nat.exists_eq_add_of_le h
  clear h
  induction m with
  | zero => exact Nat.le_refl _
  | succ m ih =>
    rw [← Nat.add_assoc]
    cases hx : L[j + m]? with
    | none =>
      have hl : L.length ≤ j + m := List.getElem?_eq_none_iff.1 hx
      rw [cum_over (show L.length ≤ j + m + 1 by omega), ← cum_over hl]; exact ih
    | some x => rw [cum_succ hx]; omega
theorem cum_le (L : List It) (k : Nat) : cum L k ≤ (textI L).length := by
  by_cases h : k ≤ L.length
  · rw [← cum_over (Nat.le_refl L.length)]; exact cum_mono L k L.length h
  · rw [cum_over (by omega)]; exact Nat.le_refl _
/-- is the k-th item an atom's? -/
def atK (L : List It) (k : Nat) : Bool := (L[k]?).any isAt
def stopB (L : List It) (k : Nat) : List Nat := if atK L k then [cum L (k + 1)] else []
def stopA (L : List It) (a k : Nat) : List Nat := (if k = a then [cum L k] else []) ++ stopB L k
def stopsTo (L : List It) (a k : Nat) : List Nat := (List.range k).flatMap (stopA L a)
def stopsP (L : List It) (a : Nat) : List Nat := stopsTo L a L.length ++ if L.length = a then [cum L L.length] else []
def bTo (L : List It) (k : Nat) : List Nat := (List.range k).flatMap (stopB L)
theorem stopsTo_succ (L : List It) (a k : Nat) : stopsTo L a (k + 1) = stopsTo L a k ++ stopA L a k := by
  unfold stopsTo; rw [List.range_succ, List.flatMap_append]; simp
theorem bTo_succ (L : List It) (k : Nat) : bTo L (k + 1) = bTo L k ++ stopB L k := by
  unfold bTo; rw [List.range_succ, List.flatMap_append]; simp
theorem bTo_len (L : List It) : ∀ k, (bTo L k).length = (L.take k).countP isAt
  | 0 => by simp [bTo]
  | k + 1 => by
    rw [bTo_succ, List.length_append, bTo_len L k, List.take_add_one, List.countP_append]
    congr 1
    unfold stopB atK
    cases hx : L[k]? with
    | none => simp
    | some x => cases ha : isAt x <;> simp [ha]
theorem stops_low {L : List It} {a : Nat} (h : ∀ k, k < a → atK L k = false) : ∀ k, k ≤ a → stopsTo L a k = [] ∧ bTo L k = []
  | 0, _ => ⟨rfl, rfl⟩
  | k + 1, hk => by
    obtain ⟨h1, h2⟩ := stops_low h k (by omega)
    have hb : stopB L k = [] := by unfold stopB; rw [h k (by omega)]; rfl
    rw [stopsTo_succ, bTo_succ, h1, h2]
    unfold stopA
    rw [hb, if_neg (by omega)]; exact ⟨rfl, rfl⟩
theorem stops_high {L : List It} {a : Nat} (h : ∀ k, k < a → atK L k = false) : ∀ m, stopsTo L a (a + m + 1) = cum L a :: bTo L (a + m + 1)
  | 0 => by
    obtain ⟨h1, h2⟩ := stops_low h a (Nat.le_refl _)
    show stopsTo L a (a + 1) = cum L a :: bTo L (a + 1)
    rw [stopsTo_succ, bTo_succ, h1, h2]
    unfold stopA
    rw [if_pos rfl]; rfl
  | m + 1 => by
    rw [show a + (m + 1) + 1 = a + m + 1 + 1 by omega, stopsTo_succ, stops_high h m, bTo_succ L (a + m + 1)]
    unfold stopA
    rw [if_neg (by omega)]; rfl
theorem stops_all {L : List It} {a : Nat} (h : ∀ k, k < a → atK L k = false) (ha : a ≤ L.length) : stopsP L a = cum L a :: bTo L L.length := by
  unfold stopsP
  rcases Nat.eq_or_lt_of_le ha with e | hlt
  · rw [if_pos e.symm, ← e, (stops_low h a (Nat.le_refl _)).1, (stops_low h a (Nat.le_refl _)).2]; rfl
  · obtain ⟨m, hm⟩ : ∃ m, L.length = a + m + 1 := ⟨L.length - a - 1, by omega⟩
    rw [if_neg (by omega), hm, stops_high h m, List.append_nil]
/-- the document's: the end of the last item whose atom is below k, among the first m items -/
def lastTo (L : List It) (k : Nat) : Nat → Nat
  | 0 => 0
  | m + 1 => if atK L m && decide ((L.take m).countP isAt < k) then cum L (m + 1) else lastTo L k m
theorem bTo_at (L : List It) : ∀ (m j : Nat), j < (L.take m).countP isAt → (bTo L m)[j]? = some (lastTo L (j + 1) m)
  | 0, j, h => by simp at h
  | m + 1, j, h => by
    have hl := bTo_len L m
    rw [bTo_succ]
    unfold lastTo
    have hc : (L.take (m + 1)).countP isAt = (L.take m).countP isAt + (if atK L m then 1 else 0) := by
      rw [List.take_add_one, List.countP_append]
      congr 1
      unfold atK
      cases hx : L[m]? with
      | none => simp
      | some x => cases ha : isAt x <;> simp [ha]
    rw [hc] at h
    by_cases hj : j < (L.take m).countP isAt
    · rw [List.getElem?_append_left (by omega), bTo_at L m j hj, if_neg]
      simp; intro _; omega
    · cases ha : atK L m
      · rw [ha] at h; simp at h; omega
      · rw [ha] at h; simp at h
        have e : j = (L.take m).countP isAt := by omega
        rw [List.getElem?_append_right (by omega), if_pos (by simp; omega)]
        unfold stopB
        rw [ha, hl, e]; simp
/-- the stops, number by number -/
def stopK (L : List It) (a k : Nat) : Nat := if k = 0 then cum L a else lastTo L k L.length
theorem stops_at {L : List It} {a : Nat} (h : ∀ k, k < a → atK L k = false) (ha : a ≤ L.length) : stopsP L a = (List.range (L.countP isAt + 1)).map (stopK L a) := by
  rw [stops_all h ha]
  apply List.ext_getElem?
  intro i
  have hc : (L.take L.length).countP isAt = L.countP isAt := by rw [List.take_length]
  cases i with
  | zero => simp [stopK]
  | succ i =>
    rw [List.getElem?_cons_succ]
    by_cases hi : i < L.countP isAt
    · rw [bTo_at L L.length i (by omega), List.getElem?_map, List.getElem?_range (by omega)]
      simp [stopK]
    · rw [List.getElem?_eq_none (by rw [bTo_len]; omega), List.getElem?_eq_none (by simp; omega)]
/-- they rise -/
theorem bTo_lt {L : List It} {k : Nat} : ∀ x ∈ bTo L k, x ≤ cum L k := by
  intro x hx
  unfold bTo at hx
  obtain ⟨i, hi, hx⟩ := List.mem_flatMap.1 hx
  have hi' := List.mem_range.1 hi
  unfold stopB at hx
  split at hx
  · rw [List.mem_singleton] at hx; subst hx; exact cum_mono L _ _ (by omega)
  · cases hx
theorem bTo_rise {L : List It} (hne : ∀ x ∈ L, isAt x = true → x.2.1 ≠ []) : ∀ k, (bTo L k).Pairwise (· < ·)
  | 0 => by simp [bTo]
  | k + 1 => by
    rw [bTo_succ, List.pairwise_append]
    refine ⟨bTo_rise hne k, ?_, fun x hx y hy => ?_⟩
    · unfold stopB; split <;> simp
    · unfold stopB atK at hy
      split at hy
      · rename_i ha
        rw [List.mem_singleton] at hy
        subst hy
        have h1 := bTo_lt x hx
        cases hz : L[k]? with
        | none => rw [hz] at ha; cases ha
        | some z =>
          rw [hz] at ha
          have h2 := List.length_pos_iff.2 (hne z (List.mem_of_getElem? hz) (by simpa using ha))
          rw [cum_succ hz]; omega
      · cases hy
theorem bTo_ge {L : List It} {a : Nat} (h : ∀ k, k < a → atK L k = false) (hne : ∀ x ∈ L, isAt x = true → x.2.1 ≠ []) : ∀ k, ∀ x ∈ bTo L k, cum L a < x := by
  intro k x hx
  unfold bTo at hx
  obtain ⟨i, hi, hx⟩ := List.mem_flatMap.1 hx
  unfold stopB at hx
  split at hx
  · rename_i ha
    rw [List.mem_singleton] at hx
    subst hx
    have hia : a ≤ i := by
      rcases Nat.lt_or_ge i a with hlt | hge
      · rw [h i hlt] at ha; cases ha
      · exact hge
    have h1 := cum_mono L a i hia
    unfold atK at ha
    cases hz : L[i]? with
    | none => rw [hz] at ha; cases ha
    | some z =>
      rw [hz] at ha
      have h2 := List.length_pos_iff.2 (hne z (List.mem_of_getElem? hz) (by simpa using ha))
      rw [cum_succ hz]; omega
  · cases hx
theorem stops_rise {L : List It} {a : Nat} (h : ∀ k, k < a → atK L k = false) (ha : a ≤ L.length) (hne : ∀ x ∈ L, isAt x = true → x.2.1 ≠ []) : (stopsP L a).Pairwise (· < ·) := by
  rw [stops_all h ha, List.pairwise_cons]
  exact ⟨fun x hx => bTo_ge h hne L.length x hx, bTo_rise hne _⟩
end Go.Proofs.YthoicieckodneaaGreatDoor.Loc

/- The nearest stop, the tag of a byte, the stops' places: plain laws. No program. -/
namespace Go.Proofs.YthoicieckodneaaGreatDoor.Loc
open Go.RowKit Utf All Small Strs Build EncC Pat Cls Dec Go.Proofs.YthoicieckodneaaGreatDoor.Sys
set_option linter.unusedVariables false
set_option linter.unusedSimpArgs false

/-- the last stop, among the first k, that is no farther than a byte -/
def nearTo (S : List Int) (off : Int) : Nat → Int
  | 0 => 0
  | k + 1 => if S.getD k 0 ≤ off then (k : Int) else nearTo S off k
theorem near_bd (S : List Int) (off : Int) : ∀ k, 0 ≤ nearTo S off k ∧ nearTo S off k ≤ k
  | 0 => by simp [nearTo]
  | k + 1 => by
    have := near_bd S off k
    unfold nearTo
    split <;> omega
theorem near_stop {S : List Int} (hs : S.Pairwise (· < ·)) {off : Int} {k : Nat} (hk : k < S.length) (h : off < S.getD k 0) : ∀ m, k ≤ m → m ≤ S.length → nearTo S off m = nearTo S off k
  | 0, h1, _ => by rw [show k = 0 by omega]
  | m + 1, h1, h2 => by
    rcases Nat.eq_or_lt_of_le h1 with e | hlt
    · rw [e]
    · have ih := near_stop hs hk h m (by omega) (by omega)
      have e1 : nearTo S off (m + 1) = if S.getD m 0 ≤ off then (m : Int) else nearTo S off m := rfl
      have hge : S.getD k 0 ≤ S.getD m 0 := by
        rw [List.getD_eq_getElem?_getD, List.getD_eq_getElem?_getD, List.getElem?_eq_getElem hk, List.getElem?_eq_getElem (show m < S.length by omega)]
        rcases Nat.eq_or_lt_of_le (show k ≤ m by omega) with e | hl
        · subst e; exact Int.le_refl _
        · have := List.pairwise_iff_getElem.1 hs k m hk (by omega) hl
          show S[k] ≤ S[m]
          omega
      rw [e1, if_neg (by omega)]
      exact ih
/-- the tag of a byte's item -/
def tagR : List It → Int → Int
  | [], _ => -1
  | x :: r, o => if o < x.2.1.length then x.1 else tagR r (o - x.2.1.length)
def tagF (L : List It) (off : Int) : Int := if off < 0 then -1 else tagR L off
theorem tagR_drop {L : List It} {k : Nat} {x : It} (h : L[k]? = some x) (o : Int) : tagR (L.drop k) o = if o < x.2.1.length then x.1 else tagR (L.drop (k + 1)) (o - x.2.1.length) := by
  have hk := (List.getElem?_eq_some_iff.1 h).1
  have hx := (List.getElem?_eq_some_iff.1 h).2
  rw [List.drop_eq_getElem_cons hk, hx]; rfl
theorem tag_at {L : List It} : ∀ (i : Nat) (x : It) (o : Int), L[i]? = some x → (cum L i : Int) ≤ o → o < cum L (i + 1) → tagF L o = x.1 := by
  intro i x o hx h1 h2
  have key : ∀ m, m ≤ i → tagR L o = tagR (L.drop m) (o - cum L m) := by
    intro m
    induction m with
    | zero => intro _; rw [cum_zero]; simp
    | succ m ih =>
      intro hm
      have hl : i < L.length := (List.getElem?_eq_some_iff.1 hx).1
      have hz : L[m]? = some L[m] := List.getElem?_eq_getElem (by omega)
      have hc := cum_succ hz
      have hmono := cum_mono L (m + 1) i (by omega)
      rw [ih (by omega), tagR_drop hz, if_neg (by omega), hc]
      congr 1
      omega
  unfold tagF
  rw [if_neg (by omega), key i (Nat.le_refl _), tagR_drop hx, cum_succ hx] at *
  rw [if_pos (by omega)]
/-- a byte lies in an item -/
theorem item_of {L : List It} : ∀ (k : Nat) (o : Int), 0 ≤ o → o < cum L k → ∃ i x, i < k ∧ L[i]? = some x ∧ (cum L i : Int) ≤ o ∧ o < cum L (i + 1)
  | 0, o, h0, h => by rw [cum_zero] at h; omega
  | k + 1, o, h0, h => by
    by_cases hk : o < cum L k
    · obtain ⟨i, x, h1, h2⟩ := item_of k o h0 hk
      exact ⟨i, x, by omega, h2⟩
    · cases hx : L[k]? with
      | none =>
        have hl : L.length ≤ k := List.getElem?_eq_none_iff.1 hx
        rw [cum_over (show L.length ≤ k + 1 by omega), ← cum_over hl] at h
        omega
      | some x => exact ⟨k, x, by omega, hx, by omega, h⟩
theorem tag_mem {L : List It} {k : Nat} {o : Int} (h0 : 0 ≤ o) (h : o < cum L k) : ∃ i x, i < k ∧ L[i]? = some x ∧ tagF L o = x.1 := by
  obtain ⟨i, x, h1, h2, h3, h4⟩ := item_of k o h0 h
  exact ⟨i, x, h1, h2, tag_at i x o h2 h3 h4⟩
/-- a place between plain texts is where a cluster begins, or the end -/
theorem st_mem : ∀ (ca : List Int) (c : Int) (cb : List Int) (rk : List Int) (l : Int) (p : Int), (l = 0 ∨ l = 4) → (∀ d ∈ ca, PlC d) → clsZ c = 0 →
    p + ((enc ca).length : Int) ∈ stG (l :: rk) (ca ++ c :: cb) (posL p (ca ++ c :: cb))
  | [], c, cb, rk, l, p, hl, _, hc => by
    show p + 0 ∈ stG (l :: rk) (c :: cb) (posL p (c :: cb))
    unfold stG posL
    have hj : joinS (l :: rk) (clsZ c) = false := by rw [hc, join_plain hl (.inl rfl)]; rfl
    rw [hj]
    simp
  | d :: ca, c, cb, rk, l, p, hl, hp, hc => by
    have hd := hp d List.mem_cons_self
    have ih := st_mem ca c cb (l :: rk) (clsZ d) (p + (encB d).length) hd.2 (fun x hx => hp x (List.mem_cons_of_mem _ hx)) hc
    have e : p + ((enc (d :: ca)).length : Int) = p + (encB d).length + ((enc ca).length : Int) := by
      rw [enc_cons, List.length_append]; omega
    rw [e]
    show _ ∈ stG (l :: rk) (d :: (ca ++ c :: cb)) (posL p (d :: (ca ++ c :: cb)))
    unfold stG posL
    split
    · exact ih
    · exact List.mem_cons_of_mem _ ih
theorem start_mem {t u : List UInt8} (ht : Pln t) (hu : Pln u) : (t.length : Int) ∈ cstL (t ++ u) := by
  obtain ⟨a, ha⟩ := ht
  obtain ⟨b, hb⟩ := hu
  have hab := ha.app hb
  have hm : ∀ c ∈ a ++ b, mayC c = true := fun c hc => (hab.pl c hc).1
  unfold cstL startsL
  cases b with
  | nil =>
    have hu0 : u = [] := hb.eq
    rw [hu0, List.append_nil]
    exact List.mem_append_right _ (by simp)
  | cons c cb =>
    have hc := hb.hd c cb rfl
    refine List.mem_append_left _ ?_
    rw [hab.eq, chars_encf _ hm, starts_enc _ 0 hm]
    cases a with
    | nil =>
      have ht0 : t = [] := ha.eq
      rw [ht0]
      show ((([] : List UInt8).length : Nat) : Int) ∈ stG [] (c :: cb) (posL 0 (c :: cb))
      unfold stG posL
      have hj : joinS [] (clsZ c) = false := rfl
      rw [hj]; simp
    | cons d a =>
      have hd0 := ha.hd d a rfl
      have h := st_mem a c cb [] (clsZ d) (0 + (encB d).length) (.inl hd0) (fun x hx => ha.pl x (List.mem_cons_of_mem _ hx)) hc
      have e : (t.length : Int) = 0 + (encB d).length + ((enc a).length : Int) := by
        rw [ha.eq, enc_cons, List.length_append]; omega
      rw [e]
      show _ ∈ stG [] (d :: (a ++ c :: cb)) (posL 0 (d :: (a ++ c :: cb)))
      unfold stG posL
      have hj : joinS [] (clsZ d) = false := rfl
      rw [hj]
      exact List.mem_cons_of_mem _ h
theorem textI_pln {L : List It} (h : ∀ x ∈ L, Pln x.2.1) : Pln (textI L) := (Pln.flat (ts := L.map fun (x : It) => x.2.1) fun t ht => by
  obtain ⟨x, hx, rfl⟩ := List.mem_map.1 ht
  exact h x hx).1
theorem cum_start {L : List It} (h : ∀ x ∈ L, Pln x.2.1) (k : Nat) : (cum L k : Int) ∈ cstL (textI L) := by
  have e : textI L = textI (L.take k) ++ textI (L.drop k) := by rw [← textI_app, List.take_append_drop]
  rw [e]
  exact start_mem (textI_pln fun x hx => h x (List.mem_of_mem_take hx)) (textI_pln fun x hx => h x (List.mem_of_mem_drop hx))
end Go.Proofs.YthoicieckodneaaGreatDoor.Loc
