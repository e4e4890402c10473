/- An affix's parts as the document tells them: plain laws. -/
import Derived.Test.YtdkjkbbibdppoaaGreatDoorJLocC
import Derived.Test.YtdkjkbbibdppoaaGreatDoorJLocA
namespace Go.Proofs.YtdkjkbbibdppoaaGreatDoor.Loc
open Go.RowKit Utf All Small Strs Build EncC Pat Cls
set_option linter.unusedVariables false
set_option linter.unusedSimpArgs false

def stepR (l : Loc) (st : List Prt × List UInt8) (x : Pc) : List Prt × List UInt8 :=
  if x.1 = 3 then ((if st.2 = [] then st.1 else st.1 ++ [(false, st.2)]) ++ [(true, [])], []) else (st.1, st.2 ++ txtL l [x])
def finR (st : List Prt × List UInt8) : List Prt := if st.2 = [] then st.1 else st.1 ++ [(false, st.2)]
def stR (l : Loc) (q : List Pc) : List Prt × List UInt8 := q.foldl (stepR l) ([], [])
def InvR (st : List Prt × List UInt8) : Prop := st.1 = [] ∨ ∃ r, st.1 = r ++ [(true, [])]
theorem txt_three (l : Loc) (x : Pc) (h : x.1 = 3) : txtL l [x] = [] := by
  unfold txtL resF; simp [h]
theorem stepR_inv {l : Loc} {st : List Prt × List UInt8} {x : Pc} (h : InvR st) : InvR (stepR l st x) := by
  unfold stepR
  split
  · exact .inr ⟨_, rfl⟩
  · exact h
theorem step_eq {l : Loc} {st : List Prt × List UInt8} {x : Pc} (h : InvR st) : stepP (finR st) (oneP l x) = finR (stepR l st x) := by
  obtain ⟨out, s⟩ := st
  unfold stepR oneP
  by_cases h3 : x.1 = 3
  · rw [if_pos h3, txt_three l x h3, decide_eq_true h3]
    unfold stepP finR
    simp only
    rw [if_neg (by simp)]
    split <;> rename_i hg
    · simp
    · simp
  · rw [if_neg h3, decide_eq_false h3]
    generalize txtL l [x] = tx
    by_cases ht : tx = []
    · subst ht
      unfold stepP finR
      simp
    · unfold stepP
      rw [if_neg (by simp [ht])]
      unfold finR
      simp only
      have hst : ¬ s ++ tx = [] := by simp [ht]
      rw [if_neg hst]
      by_cases hs : s = []
      · subst hs
        rw [if_pos rfl]
        rcases h with h | ⟨r, h⟩
        · simp only at h; subst h; simp
        · simp only at h; subst h; simp
      · rw [if_neg hs]; simp
theorem parts_fold {l : Loc} : ∀ (q : List Pc) (st : List Prt × List UInt8), InvR st → q.foldl (fun out x => stepP out (oneP l x)) (finR st) = finR (q.foldl (stepR l) st)
  | [], _, _ => rfl
  | x :: q, st, h => by
    rw [List.foldl_cons, List.foldl_cons, step_eq h]
    exact parts_fold q _ (stepR_inv h)
theorem parts_fin (l : Loc) (q : List Pc) : partsF l q = finR (stR l q) := parts_fold q ([], []) (.inl rfl)
theorem stR_snoc (l : Loc) {q : List Pc} {k : Nat} (h : k < q.length) : stR l (q.take (k + 1)) = stepR l (stR l (q.take k)) q[k] := by
  unfold stR
  rw [List.take_succ_eq_append_getElem h, List.foldl_append]; rfl
/-- what a part is -/
def GoodP (p : Prt) : Prop := (p.1 = true ∧ p.2 = []) ∨ (p.1 = false ∧ p.2 ≠ [])
def nSign (ps : List Prt) : Nat := ps.countP (·.1)
theorem stR_good {l : Loc} : ∀ (q : List Pc) (st : List Prt × List UInt8), (∀ p ∈ st.1, GoodP p) → ∀ p ∈ (q.foldl (stepR l) st).1, GoodP p
  | [], _, h => h
  | x :: q, st, h => by
    rw [List.foldl_cons]
    refine stR_good q _ fun p hp => ?_
    unfold stepR at hp
    split at hp
    · rcases List.mem_append.1 hp with hp | hp
      · split at hp
        · exact h p hp
        · rcases List.mem_append.1 hp with hp | hp
          · exact h p hp
          · rw [List.mem_singleton] at hp; subst hp; exact .inr ⟨rfl, by assumption⟩
      · rw [List.mem_singleton] at hp; subst hp; exact .inl ⟨rfl, rfl⟩
    · exact h p hp
theorem parts_good (l : Loc) (q : List Pc) : ∀ p ∈ partsF l q, GoodP p := by
  rw [parts_fin]
  intro p hp
  unfold finR at hp
  have hg := stR_good (l := l) q ([], []) (by simp)
  split at hp
  · exact hg p hp
  · rcases List.mem_append.1 hp with hp | hp
    · exact hg p hp
    · rw [List.mem_singleton] at hp; subst hp; exact .inr ⟨rfl, by assumption⟩
theorem stR_sign {l : Loc} : ∀ (q : List Pc) (st : List Prt × List UInt8), nSign (q.foldl (stepR l) st).1 = nSign st.1 + cntK 3 q
  | [], _ => by simp [cntK]
  | x :: q, st => by
    rw [List.foldl_cons, stR_sign q]
    have e : cntK 3 (x :: q) = (if x.1 = 3 then 1 else 0) + cntK 3 q := by
      show List.countP (isK 3) (x :: q) = _ + List.countP (isK 3) q
      rw [List.countP_cons]
      by_cases h3 : x.1 = 3
      · have hk : isK 3 x = true := by unfold isK; simp [h3]
        rw [hk, if_pos h3]; simp; omega
      · have hk : isK 3 x = false := by unfold isK; simp [h3]
        rw [hk, if_neg h3]; simp
    rw [e]
    by_cases h3 : x.1 = 3
    · have hs : (stepR l st x).1 = (if st.2 = [] then st.1 else st.1 ++ [(false, st.2)]) ++ [(true, [])] := by unfold stepR; rw [if_pos h3]
      rw [hs, if_pos h3]
      unfold nSign
      split <;> simp [List.countP_append, List.countP_cons] <;> omega
    · have hs : (stepR l st x).1 = st.1 := by unfold stepR; rw [if_neg h3]
      rw [hs, if_neg h3]; omega
theorem parts_sign (l : Loc) (q : List Pc) : nSign (partsF l q) = cntK 3 q := by
  rw [parts_fin]
  have h := stR_sign (l := l) q ([], [])
  have h' : nSign (stR l q).1 = cntK 3 q := by unfold stR; rw [h]; simp [nSign]
  unfold finR
  split
  · exact h'
  · unfold nSign at *
    rw [List.countP_append, h']; simp
end Go.Proofs.YtdkjkbbibdppoaaGreatDoor.Loc
