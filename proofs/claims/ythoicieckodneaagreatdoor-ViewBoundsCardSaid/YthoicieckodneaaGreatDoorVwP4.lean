/- Where the caret may stand, plain laws: of a draft's items. No program. -/
import Derived.Test.YthoicieckodneaaGreatDoorItP5
import Derived.Test.YthoicieckodneaaGreatDoorVwP3a
namespace Go.Proofs.YthoicieckodneaaGreatDoor.Loc
open Go.RowKit Utf All Small Strs Build EncC Pat Cls Dec Go.Proofs.YthoicieckodneaaGreatDoor.Sys
set_option linter.unusedVariables false
set_option linter.unusedSimpArgs false

theorem prt_not {r : Rec} {ps : List Prt} {x : It} (h : x ∈ ps.map (prtI r)) : isAt x = false ∧ x.1 ≠ 3 := by
  obtain ⟨y, _, rfl⟩ := List.mem_map.1 h
  unfold prtI isAt
  split <;> simp
section
variable {r : Rec} {p : Pt} {d : Dr}
theorem low_at (i : Nat) (x : It) (hi : i < (ahead (locOf r p) d.neg).length) (hx : (itemsF (locOf r p) d)[i]? = some x) : isAt x = false ∧ x.1 ≠ 3 := by
  unfold itemsF at hx
  rw [List.getElem?_append_left (by rw [List.length_map]; exact hi)] at hx
  exact prt_not (List.mem_of_getElem? hx)
theorem low_k (k : Nat) (hk : k < (ahead (locOf r p) d.neg).length) : atK (itemsF (locOf r p) d) k = false := by
  unfold atK
  cases hx : (itemsF (locOf r p) d)[k]? with
  | none => rfl
  | some x => exact (low_at k x hk hx).1
theorem low_len : (ahead (locOf r p) d.neg).length ≤ (itemsF (locOf r p) d).length := by
  unfold itemsF
  rw [List.length_append, List.length_map]; omega
theorem items_ne (h : Both r p) (hd : DrOk d) : ∀ x ∈ itemsF (locOf r p) d, isAt x = true → x.2.1 ≠ [] := by
  intro x hx ha
  obtain ⟨i, hi, he⟩ := List.getElem_of_mem hx
  have hx' : (itemsF (locOf r p) d)[i]? = some x := by rw [List.getElem?_eq_getElem hi, he]
  obtain ⟨h1, h2⟩ := items_at hd hx' ha
  rw [h2]
  unfold atomI
  split
  · exact sym_ne h.may.dec
  · rename_i hne
    rcases atom_bd hd h1 with hb | hb
    · exact absurd hb hne
    · obtain ⟨n, hn⟩ := Int.eq_ofNat_of_zero_le hb.1
      rw [hn]
      exact dig_ne h (by omega)
theorem stops_len (hd : DrOk d) : (stopsP (itemsF (locOf r p) d) (ahead (locOf r p) d.neg).length).length = (atomsF d).length + 1 := by
  rw [stops_at (fun k hk => low_k k hk) low_len, List.length_map, List.length_range, items_count hd]
theorem stops_up (h : Both r p) (hd : DrOk d) : (stopsP (itemsF (locOf r p) d) (ahead (locOf r p) d.neg).length).Pairwise (· < ·) := stops_rise (fun k hk => low_k k hk) low_len (items_ne h hd)
theorem stop_cum {v : Nat} (hv : v ∈ stopsP (itemsF (locOf r p) d) (ahead (locOf r p) d.neg).length) : ∃ k, v = cum (itemsF (locOf r p) d) k := by
  rw [stops_all (fun k hk => low_k k hk) low_len] at hv
  rcases List.mem_cons.1 hv with rfl | hv
  · exact ⟨_, rfl⟩
  · obtain ⟨i, x, _, _, h⟩ := bTo_mem hv
    exact ⟨i + 1, h⟩
theorem stops_le {v : Nat} (hv : v ∈ stopsP (itemsF (locOf r p) d) (ahead (locOf r p) d.neg).length) : v ≤ (textI (itemsF (locOf r p) d)).length := by
  obtain ⟨k, rfl⟩ := stop_cum hv
  exact cum_le _ k
end
theorem getD_mem {S : List Nat} {k : Nat} (h : k < S.length) : S.getD k 0 ∈ S := by
  rw [List.getD_eq_getElem?_getD, List.getElem?_eq_getElem h]
  exact List.getElem_mem h
theorem pair_lt {S : List Nat} (h : S.Pairwise (· < ·)) {i j : Nat} (hij : i < j) (hj : j < S.length) : S.getD i 0 < S.getD j 0 := by
  have := List.pairwise_iff_getElem.1 h i j (by omega) hj hij
  rw [List.getD_eq_getElem?_getD, List.getD_eq_getElem?_getD, List.getElem?_eq_getElem (by omega : i < S.length), List.getElem?_eq_getElem hj]
  exact this
end Go.Proofs.YthoicieckodneaaGreatDoor.Loc
