/- A draft's items, plain laws: where an atom's item stands; the sign of an atom's text. No program. -/
import Derived.Test.YthoicieckodneaaGreatDoorJIt
namespace Go.Proofs.YthoicieckodneaaGreatDoor.Loc
open Go.RowKit Utf All Small Strs Build EncC Pat Cls Dec Go.Proofs.YthoicieckodneaaGreatDoor.Sys
set_option linter.unusedVariables false
set_option linter.unusedSimpArgs false

def hasA (k : Int) (x : It) : Bool := x.2.2 == k
def findZ (L : List It) (k : Int) : Int := idxF (hasA k) L
theorem atomI_at (l : Loc) (d : Dr) (k : Nat) : (atomI l d k).2.2 = (k : Int) := by unfold atomI; split <;> rfl
theorem count_le {l : Loc} {d : Dr} (h : DrOk d) (i : Nat) : ((itemsF l d).take i).countP isAt ≤ (atomsF d).length := by
  rw [← items_count h (l := l)]
  exact (List.take_sublist _ _).countP_le
theorem items_less {l : Loc} {d : Dr} (h : DrOk d) {n : Nat} {x : It} (hx : x ∈ (itemsF l d).take n) : x.2.2 < (((itemsF l d).take n).countP isAt : Int) := by
  obtain ⟨j, hj, he⟩ := List.getElem_of_mem hx
  have hj' : (itemsF l d)[j]? = some x := by
    rw [← he, List.getElem_take]
    exact List.getElem?_eq_getElem _
  cases ha : isAt x
  · have := items_none (List.mem_of_getElem? hj') ha
    omega
  · obtain ⟨h1, h2⟩ := items_at h hj' ha
    rw [h2, atomI_at]
    have hjn : j < n := by rw [List.length_take] at hj; omega
    have e : ((itemsF l d).take (j + 1)).countP isAt = ((itemsF l d).take j).countP isAt + 1 := by
      rw [List.take_add_one, hj', List.countP_append]
      simp [ha]
    have hle : ((itemsF l d).take (j + 1)).countP isAt ≤ ((itemsF l d).take n).countP isAt := by
      have : (itemsF l d).take (j + 1) = ((itemsF l d).take n).take (j + 1) := by rw [List.take_take, Nat.min_eq_left (by omega)]
      rw [this]
      exact (List.take_sublist _ _).countP_le
    omega
theorem find_at {l : Loc} {d : Dr} (h : DrOk d) {i : Nat} {x : It} (hx : (itemsF l d)[i]? = some x) (ha : isAt x = true) : findZ (itemsF l d) (((itemsF l d).take i).countP isAt : Nat) = (i : Int) := by
  have hi := (List.getElem?_eq_some_iff.1 hx).1
  have he := (List.getElem?_eq_some_iff.1 hx).2
  refine idxF_at _ _ i hi ?_ ?_
  · rw [List.any_eq_false]
    intro y hy
    have := items_less h hy
    unfold hasA
    simp only [beq_iff_eq]
    omega
  · obtain ⟨h1, h2⟩ := items_at h hx ha
    rw [he]
    unfold hasA
    rw [beq_iff_eq]
    have h3 := congrArg (fun z : It => z.2.2) h2
    simp only [atomI_at] at h3
    exact h3
theorem find_none {l : Loc} {d : Dr} (h : DrOk d) : findZ (itemsF l d) ((atomsF d).length : Nat) = -1 := by
  refine idxF_none _ _ ?_
  rw [List.any_eq_false]
  intro y hy
  have hy' : y ∈ (itemsF l d).take (itemsF l d).length := by rwa [List.take_length]
  have := items_less h hy'
  rw [List.take_length, items_count h] at this
  unfold hasA
  simp only [beq_iff_eq]
  omega
theorem atom_bd {d : Dr} (h : DrOk d) {k : Nat} (hk : k < (atomsF d).length) : atomAt d k = 10 ∨ (0 ≤ atomAt d k ∧ atomAt d k ≤ 9) := by
  have hm : atomAt d k ∈ atomsF d := by
    unfold atomAt
    rw [List.getD_eq_getElem?_getD, List.getElem?_eq_getElem hk]
    exact List.getElem_mem hk
  generalize atomAt d k = a at *
  unfold atomsF at hm
  rcases List.mem_append.1 hm with hm | hm
  · exact .inr (h.int _ hm)
  · rcases List.mem_append.1 hm with hm | hm
    · split at hm
      · exact .inl (by simpa using hm)
      · cases hm
    · exact .inr (h.frac _ hm)
theorem atom_sign {r : Rec} {p : Pt} (hB : Both r p) {d : Dr} (h : DrOk d) {k : Nat} (hk : k < (atomsF d).length) : signZ (locOf r p) ⟨(atomI (locOf r p) d k).2.1.toArray⟩ = atomAt d k := by
  unfold atomI
  split
  · rename_i he
    rw [he]
    exact sign_sym hB (n := 10) (by omega) (by omega)
  · rename_i hne
    rcases atom_bd h hk with hb | hb
    · exact absurd hb hne
    · obtain ⟨n, hn⟩ := Int.eq_ofNat_of_zero_le hb.1
      rw [hn]
      have hn9 : n < 10 := by omega
      show signZ (locOf r p) ⟨(digZ (locOf r p) (n : Int)).toArray⟩ = _
      rw [dig_k hB hn9]
      have := sign_digit_ hB hn9
      unfold symX at this
      rwa [if_pos (by omega)] at this
theorem atomI_tag (l : Loc) (d : Dr) (k : Nat) : (atomI l d k).1 = 2 ∨ (atomI l d k).1 = 4 := by
  unfold atomI
  split
  · exact .inr rfl
  · exact .inl rfl
end Go.Proofs.YthoicieckodneaaGreatDoor.Loc
