/- Joined by wip/join.py: StP StP2 StP3 VwP3. -/
import Derived.Test.YthoicieckodneaaGreatDoorJIt
import Derived.Test.YthoicieckodneaaGreatDoorVwP3a
/- What is shown, read again: plain laws: the signs of a draft's clusters tell the draft. No program. -/
namespace Go.Proofs.YthoicieckodneaaGreatDoor.Loc
open Go.RowKit Utf All Small Strs Build EncC Pat Cls Dec Go.Proofs.YthoicieckodneaaGreatDoor.Sys
set_option linter.unusedVariables false
set_option linter.unusedSimpArgs false

theorem cuts_flat (s : List UInt8) : ∀ (L : List Int) (a : Int), (a :: L).Pairwise (· ≤ ·) → 0 ≤ a → (cutsL s (a :: L)).flatten = (s.drop a.toNat).take (((a :: L).getLast (by simp)).toNat - a.toNat)
  | [], a, _, _ => by simp [cutsL]
  | b :: L, a, h, h0 => by
    have hp := List.pairwise_cons.1 h
    have hab := hp.1 b List.mem_cons_self
    have ih := cuts_flat s L b hp.2 (by omega)
    have hlast : b ≤ (b :: L).getLast (by simp) := by
      cases L with
      | nil => simp
      | cons c L => exact (List.pairwise_cons.1 hp.2).1 _ (by rw [List.getLast_cons (by simp)]; exact List.getLast_mem _)
    have hg : (a :: b :: L).getLast (by simp) = (b :: L).getLast (by simp) := List.getLast_cons (by simp)
    rw [hg]
    generalize (b :: L).getLast (by simp) = z at *
    show (s.drop a.toNat).take (b.toNat - a.toNat) ++ (cutsL s (b :: L)).flatten = _
    rw [ih]
    have e1 : z.toNat - a.toNat = (b.toNat - a.toNat) + (z.toNat - b.toNat) := by omega
    have e2 : s.drop b.toNat = (s.drop a.toNat).drop (b.toNat - a.toNat) := by rw [List.drop_drop]; congr 1; omega
    rw [e1, e2, ← List.take_add]
theorem split_join (s : List UInt8) : (splitS s).flatten = s := by
  by_cases h0 : s = []
  · subst h0; rfl
  · have hs := cst_sorted s
    have hc : ∃ L, cstL s = 0 :: L := by
      unfold cstL
      rw [chars_cons h0]
      unfold startsL
      rw [starts_cons h0]
      unfold stG
      have hj : joinS [] (clsZ (dec s).1) = false := rfl
      rw [hj]
      exact ⟨_, rfl⟩
    obtain ⟨L, hL⟩ := hc
    have hl : (cstL s).getLast? = some (s.length : Int) := by unfold cstL; simp
    unfold splitS
    rw [hL] at hs hl ⊢
    rw [cuts_flat s L 0 hs (by omega)]
    have hz : (0 :: L).getLast (by simp) = (s.length : Int) := by
      rw [List.getLast?_eq_some_getLast (by simp)] at hl
      exact Option.some.inj hl
    rw [hz]
    simp
theorem split_one {t : List UInt8} (h : (splitS t).length = 1) : splitS t = [t] := by
  have hj := split_join t
  match hs : splitS t, h with
  | [u], _ =>
    rw [hs] at hj
    simp at hj
    rw [hj]
section
variable {r : Rec} {p : Pt}
end
end Go.Proofs.YthoicieckodneaaGreatDoor.Loc

/- What is shown, read again: plain laws: the program's reading and the document's are the same. No program. -/
namespace Go.Proofs.YthoicieckodneaaGreatDoor.Loc
open Go.RowKit Utf All Small Strs Build EncC Pat Cls Dec Go.Proofs.YthoicieckodneaaGreatDoor.Sys
set_option linter.unusedVariables false
set_option linter.unusedSimpArgs false

/-- what is read so far: digits ahead, behind, the separator, where groups were -/
structure MS where
  int : List Int
  frac : List Int
  sep : Bool
  ends : List Int
structure MOk (s : MS) : Prop where
  frac : s.sep = false → s.frac = []
  ends : ∀ e ∈ s.ends, e ≤ s.int.length
  int : ∀ x ∈ s.int, 0 ≤ x ∧ x ≤ 9
  fr : ∀ x ∈ s.frac, 0 ≤ x ∧ x ≤ 9
end Go.Proofs.YthoicieckodneaaGreatDoor.Loc

/- What is shown, read again: plain laws: the program's answer and the document's are one. No program. -/
namespace Go.Proofs.YthoicieckodneaaGreatDoor.Loc
open Go.RowKit Utf All Small Strs Build EncC Pat Cls Dec Go.Proofs.YthoicieckodneaaGreatDoor.Sys
set_option linter.unusedVariables false
set_option linter.unusedSimpArgs false

/-! ### a draft of atoms -/
section
variable {r : Rec} {p : Pt}
/-! ### the document's answer -/
/-! ### the program's answer -/
def preT (l : Loc) (neg : Bool) : List UInt8 := textI ((ahead l neg).map (prtI l.r))
def sufT (l : Loc) (neg : Bool) : List UInt8 := textI ((behind l neg).map (prtI l.r))
theorem items_text (l : Loc) (d : Dr) : textI (itemsF l d) = preT l d.neg ++ (textI (midF l d) ++ sufT l d.neg) := by
  unfold itemsF preT sufT
  rw [textI_app, textI_app]
end
end Go.Proofs.YthoicieckodneaaGreatDoor.Loc

/- Where the caret may stand, plain laws: how many bytes a text has at most. No program. -/
namespace Go.Proofs.YthoicieckodneaaGreatDoor.Loc
open Go.RowKit Utf All Small Strs Build EncC Pat Cls Dec Go.Proofs.YthoicieckodneaaGreatDoor.Sys
set_option linter.unusedVariables false
set_option linter.unusedSimpArgs false

def maxTo (l : Loc) : Nat → Nat
  | 0 => 0
  | k + 1 => max (maxTo l k) (digZ l (k : Int)).length
theorem maxTo_ge (l : Loc) : ∀ (k j : Nat), j < k → (digZ l (j : Int)).length ≤ maxTo l k
  | 0, j, h => by omega
  | k + 1, j, h => by
    unfold maxTo
    by_cases e : j = k
    · subst e; exact Nat.le_max_right _ _
    · exact Nat.le_trans (maxTo_ge l k j (by omega)) (Nat.le_max_left _ _)
theorem dig_len (l : Loc) {x : Int} (h0 : 0 ≤ x) (h9 : x ≤ 9) : (digZ l x).length ≤ maxTo l 10 := by
  obtain ⟨k, rfl⟩ := Int.eq_ofNat_of_zero_le h0
  exact maxTo_ge l 10 k (by omega)
def wideF (l : Loc) (neg : Bool) : Nat := (preT l neg).length + (sufT l neg).length
def grpN (l : Loc) : Nat := if 0 < l.p.num.prim then l.r.group.length else 0
def boundF (l : Loc) (whole rest : Nat) : Nat := max (wideF l false) (wideF l true) + (whole + rest) * maxTo l 10 + l.r.decimal.length + (whole - 1) * grpN l
theorem wide_text (l : Loc) (neg : Bool) : (textI (itemsF l ⟨neg, [], false, []⟩)).length = wideF l neg := by
  rw [items_text]
  have e : textI (midF l ⟨neg, [], false, []⟩) = [] := rfl
  rw [e, List.nil_append, List.length_append]; rfl
theorem grp_len (l : Loc) (z : Int) : (textI (grpAt l z)).length ≤ (if z < 1 then 0 else grpN l) := by
  by_cases hz : z < 1
  · rw [grp_neg l hz]; simp [textI]
  · rw [if_neg hz]
    by_cases hp : 0 < l.p.num.prim
    · unfold grpN grpAt
      rw [if_pos hp]
      split
      · rw [textI_one]; exact Nat.le_refl _
      · simp [textI]
    · have e : Ends.itemEnds z l.p.num.prim l.p.num.sec = false := by
        unfold Ends.itemEnds; exact if_pos (Or.inr (Or.inl (by omega)))
      unfold grpAt
      rw [e]; simp [textI]
theorem ints_len (l : Loc) {xs : List Int} (hx : ∀ x ∈ xs, 0 ≤ x ∧ x ≤ 9) : ∀ k, k ≤ xs.length → (textI (intsTo l xs k)).length ≤ k * maxTo l 10 + min k (xs.length - 1) * grpN l
  | 0, _ => by simp [intsTo, textI]
  | k + 1, hk => by
    have ih := ints_len l hx k (by omega)
    have hb := getD_bd hx (show k < xs.length by omega)
    have hd := dig_len l hb.1 hb.2
    have hg := grp_len l ((xs.length : Int) - 1 - k)
    have e : textI (intF l xs k) = digZ l (xs.getD k 0) ++ textI (grpAt l ((xs.length : Int) - 1 - k)) := rfl
    rw [intsTo_succ, textI_app, e, List.length_append, List.length_append, Nat.succ_mul]
    by_cases hl : k + 1 ≤ xs.length - 1
    · rw [if_neg (by omega)] at hg
      rw [Nat.min_eq_left hl, Nat.succ_mul]
      rw [Nat.min_eq_left (by omega)] at ih
      omega
    · rw [if_pos (by omega)] at hg
      rw [Nat.min_eq_right (by omega)]
      rw [show min k (xs.length - 1) = xs.length - 1 by omega] at ih
      omega
theorem frac_len (l : Loc) (n : Nat) {ys : List Int} (hy : ∀ x ∈ ys, 0 ≤ x ∧ x ≤ 9) : ∀ k, k ≤ ys.length → (textI (fracTo l n ys k)).length ≤ k * maxTo l 10
  | 0, _ => by simp [fracTo, textI]
  | k + 1, hk => by
    have ih := frac_len l n hy k (by omega)
    have hb := getD_bd hy (show k < ys.length by omega)
    have hd := dig_len l hb.1 hb.2
    rw [fracTo_succ, textI_app, textI_one, List.length_append, Nat.succ_mul]
    exact Nat.add_le_add ih hd
theorem text_bound (l : Loc) {d : Dr} (hd : DrOk d) : (textI (itemsF l d)).length ≤ boundF l d.int.length d.frac.length := by
  have h1 := ints_len l hd.int d.int.length (Nat.le_refl _)
  have h2 := frac_len l d.int.length hd.frac d.frac.length (Nat.le_refl _)
  have h3 : (textI (decI l d)).length ≤ l.r.decimal.length := by
    unfold decI
    split
    · rw [textI_one]; exact Nat.le_refl _
    · simp [textI]
  have h4 : (preT l d.neg).length + (sufT l d.neg).length ≤ max (wideF l false) (wideF l true) := by
    cases d.neg
    · exact Nat.le_max_left _ _
    · exact Nat.le_max_right _ _
  rw [items_text]
  unfold midF boundF
  rw [textI_app, textI_app, List.length_append, List.length_append, List.length_append, List.length_append, Nat.add_mul]
  rw [Nat.min_eq_right (by omega)] at h1
  omega
/-! ### the document's affixes -/
def prtLen (ps : List Prt) : Nat := (ps.map fun y => y.2.length).sum
def affN (l : Loc) (neg : Bool) : Nat := (if neg then l.r.minus.length else 0) + prtLen (ahead l neg) + prtLen (behind l neg)
theorem prt_bytes (r : Rec) : ∀ (ps : List Prt), (∀ y ∈ ps, y.1 = true → y.2 = []) → (textI (ps.map (prtI r))).length = prtLen ps + nSign ps * r.minus.length
  | [], _ => by simp [textI, prtLen, nSign]
  | y :: ps, h => by
    have ih := prt_bytes r ps fun z hz => h z (List.mem_cons_of_mem _ hz)
    have hy := h y List.mem_cons_self
    have e : textI ((y :: ps).map (prtI r)) = (prtI r y).2.1 ++ textI (ps.map (prtI r)) := rfl
    rw [e, List.length_append, ih]
    unfold prtLen nSign
    rw [List.map_cons, List.sum_cons, List.countP_cons]
    unfold prtI
    cases hy1 : y.1
    · simp; omega
    · rw [hy hy1]
      simp only [if_true, List.length_nil, Nat.add_mul, Nat.one_mul]
      omega
theorem st_nil (l : Loc) : ∀ (q : List Pc) (st : List Prt × List UInt8), (∀ y ∈ st.1, y.1 = true → y.2 = []) → ∀ y ∈ (q.foldl (stepR l) st).1, y.1 = true → y.2 = []
  | [], st, h => h
  | x :: q, st, h => by
    rw [List.foldl_cons]
    refine st_nil l q _ ?_
    unfold stepR
    split
    · intro y hy hy1
      rcases List.mem_append.1 hy with hy | hy
      · split at hy
        · exact h y hy hy1
        · rcases List.mem_append.1 hy with hy | hy
          · exact h y hy hy1
          · rw [List.mem_singleton] at hy; subst hy; cases hy1
      · rw [List.mem_singleton] at hy; subst hy; rfl
    · exact h
theorem parts_nil (l : Loc) (q : List Pc) : ∀ y ∈ partsF l q, y.1 = true → y.2 = [] := by
  have h1 := st_nil l q ([], []) (by simp)
  rw [parts_fin]
  unfold finR stR
  split
  · exact h1
  · intro y hy hy1
    rcases List.mem_append.1 hy with hy | hy
    · exact h1 y hy hy1
    · rw [List.mem_singleton] at hy; subst hy; cases hy1
theorem aff_wide {r : Rec} {p : Pt} (h : Both r p) (neg : Bool) : affN (locOf r p) neg = wideF (locOf r p) neg := by
  have hc := h.count neg
  have h1 := prt_bytes r (ahead (locOf r p) neg) (parts_nil _ _)
  have h2 := prt_bytes r (behind (locOf r p) neg) (parts_nil _ _)
  unfold affN wideF preT sufT
  show (if neg then r.minus.length else 0) + _ + _ = (textI ((ahead (locOf r p) neg).map (prtI r))).length + (textI ((behind (locOf r p) neg).map (prtI r))).length
  rw [h1, h2]
  have hm : nSign (ahead (locOf r p) neg) * r.minus.length + nSign (behind (locOf r p) neg) * r.minus.length = (if neg then r.minus.length else 0) := by
    rw [← Nat.add_mul, hc]
    cases neg
    · simp
    · simp
  omega
end Go.Proofs.YthoicieckodneaaGreatDoor.Loc
