/- A draft's items, plain laws: how many there are at most, how long their texts are. No program. -/
import Derived.Test.YthoicieckodneaaGreatDoorItP4
import Derived.Test.YthoicieckodneaaGreatDoorJIt
import Derived.Test.YthoicieckodneaaGreatDoorLKin
namespace Go.Proofs.YthoicieckodneaaGreatDoor.Loc
open Go.RowKit Utf All Small Strs Build EncC Pat Cls Dec Go.Proofs.YthoicieckodneaaGreatDoor.Sys
set_option linter.unusedVariables false
set_option linter.unusedSimpArgs false

theorem tot_txt (l : Loc) (q : List Pc) : totP (partsF l q) ≤ (txtL l q).length := by
  have key : ∀ (q : List Pc) (out : List Prt), totP (q.foldl (fun out x => stepP out (oneP l x)) out) ≤ totP out + (txtL l q).length := by
    intro q
    induction q with
    | nil => intro out; simp
    | cons x r ih =>
      intro out
      have h1 := ih (stepP out (oneP l x))
      have h2 := step_tot out (oneP l x)
      have h3 : (txtL l (x :: r)).length = (oneP l x).2.length + (txtL l r).length := by
        have e : txtL l (x :: r) = txtL l [x] ++ txtL l r := by
          unfold txtL resF
          rw [List.flatMap_cons, List.flatMap_cons, List.flatMap_nil, List.append_nil]
        rw [e, List.length_append]; rfl
      simp only [List.foldl_cons]; omega
  have := key q []
  simpa [partsF, totP] using this
section
variable {r : Rec} {p : Pt}
theorem tot_le (h : Both r p) {q : List Pc} (hq : q ∈ affsP p) : totP (partsF (locOf r p) q) ≤ 64 := Nat.le_trans (tot_txt _ q) (h.may.aff q hq)
theorem prtT_le (h : Both r p) : ∀ (ps : List Prt), (textI (ps.map (prtI r))).length ≤ totP ps + nSign ps * 1000
  | [] => by simp [textI]
  | y :: ps => by
    have ih := prtT_le h ps
    have hm := h.may.b.min
    have e : textI ((y :: ps).map (prtI r)) = (prtI r y).2.1 ++ textI (ps.map (prtI r)) := rfl
    have ht : totP (y :: ps) = y.2.length + totP ps := by unfold totP; simp
    have hm' : r.minus.length ≤ 1000 := hm
    unfold nSign at ih ⊢
    rw [e, List.length_append, List.countP_cons, ht]
    cases hy : y.1
    · have e2 : (prtI r y).2.1 = y.2 := by unfold prtI; rw [hy]; rfl
      rw [e2]
      simp only [Bool.false_eq_true, if_false]; omega
    · have e2 : (prtI r y).2.1 = r.minus := by unfold prtI; rw [hy]; rfl
      rw [e2]
      simp only [if_true]; omega
theorem side_tot (h : Both r p) (neg : Bool) : totP (ahead (locOf r p) neg) ≤ 64 ∧ totP (behind (locOf r p) neg) ≤ 64 := by
  unfold ahead behind
  cases neg
  · exact ⟨tot_le h (q := p.pre) (by simp [affsP]), tot_le h (q := p.suf) (by simp [affsP])⟩
  · exact ⟨tot_le h (q := p.npre) (by simp [affsP]), tot_le h (q := p.nsuf) (by simp [affsP])⟩
theorem side_len (h : Both r p) (neg : Bool) : (ahead (locOf r p) neg).length ≤ 1000 ∧ (behind (locOf r p) neg).length ≤ 1000 := by
  unfold ahead behind
  have hb : ∀ q ∈ affsP p, q.length ≤ 1000 := h.may.b.len
  cases neg
  · exact ⟨Nat.le_trans (parts_len _ _) (hb p.pre (by simp [affsP])), Nat.le_trans (parts_len _ _) (hb p.suf (by simp [affsP]))⟩
  · exact ⟨Nat.le_trans (parts_len _ _) (hb p.npre (by simp [affsP])), Nat.le_trans (parts_len _ _) (hb p.nsuf (by simp [affsP]))⟩
theorem dig_le (h : Both r p) (v : Int) : (digZ (locOf r p) v).length ≤ 4 := by
  by_cases hv : 0 ≤ v ∧ v < 10
  · obtain ⟨k, rfl⟩ := Int.eq_ofNat_of_zero_le hv.1
    rw [dig_k h (show k < 10 by omega)]
    exact Sys.encB_le _
  · unfold digZ
    rw [if_neg hv]; simp
theorem mid_le (h : Both r p) {d : Dr} {x : It} (hx : x ∈ midF (locOf r p) d) : x.2.1.length ≤ 1000 := by
  rcases mid_mem hx with ⟨v, a, rfl⟩ | rfl | rfl
  · have := dig_le h v
    show (digZ (locOf r p) v).length ≤ 1000
    omega
  · exact h.may.b.grp
  · exact h.may.b.dec
theorem mid_len {l : Loc} {d : Dr} (hi : d.int.length ≤ 100) (hf : d.frac.length ≤ 100) : (midF l d).length ≤ 301 := by
  have h1 : ∀ k, (intsTo l d.int k).length ≤ 2 * k := by
    intro k
    induction k with
    | zero => simp [intsTo]
    | succ k ih =>
      rw [intsTo_succ, List.length_append]
      have hg : (grpAt l ((d.int.length : Int) - 1 - k)).length ≤ 1 := by unfold grpAt; split <;> simp
      unfold intF
      simp only [List.length_cons]; omega
  have h2 := h1 d.int.length
  unfold midF
  rw [List.length_append, List.length_append, fracTo_len]
  have h3 : (decI l d).length ≤ 1 := by unfold decI; split <;> simp
  omega
theorem textI_all : ∀ (L : List It), (∀ x ∈ L, x.2.1.length ≤ 1000) → (textI L).length ≤ 1000 * L.length
  | [], _ => by simp [textI]
  | x :: L, h => by
    have ih := textI_all L fun y hy => h y (List.mem_cons_of_mem _ hy)
    have hx := h x List.mem_cons_self
    have e : textI (x :: L) = x.2.1 ++ textI L := rfl
    rw [e, List.length_append, List.length_cons]; omega
theorem prtI_le (h : Both r p) {ps : List Prt} (hp : totP ps ≤ 64) {x : It} (hx : x ∈ ps.map (prtI r)) : x.2.1.length ≤ 1000 := by
  obtain ⟨y, hy, rfl⟩ := List.mem_map.1 hx
  have := totP_mem hy
  unfold prtI
  split
  · exact h.may.b.min
  · show y.2.length ≤ 1000
    omega
theorem items_le (h : Both r p) {d : Dr} (hi : d.int.length ≤ 100) (hf : d.frac.length ≤ 100) : (itemsF (locOf r p) d).length ≤ 2400 ∧ (∀ x ∈ itemsF (locOf r p) d, x.2.1.length ≤ 1000) ∧ (textI (itemsF (locOf r p) d)).length ≤ 400000 := by
  have hs := side_len h d.neg
  have ht := side_tot h d.neg
  have hm := mid_len (l := locOf r p) hi hf
  have hc := h.count d.neg
  have hmt := textI_all (midF (locOf r p) d) fun x hx => mid_le h hx
  have ha := prtT_le h (ahead (locOf r p) d.neg)
  have hb := prtT_le h (behind (locOf r p) d.neg)
  have hn : nSign (ahead (locOf r p) d.neg) + nSign (behind (locOf r p) d.neg) ≤ 1 := by rw [hc]; split <;> omega
  refine ⟨?_, fun x hx => ?_, ?_⟩
  · unfold itemsF
    rw [List.length_append, List.length_append, List.length_map, List.length_map]; omega
  · unfold itemsF at hx
    rcases List.mem_append.1 hx with hx | hx
    · exact prtI_le h ht.1 hx
    · rcases List.mem_append.1 hx with hx | hx
      · exact mid_le h hx
      · exact prtI_le h ht.2 hx
  · unfold itemsF
    rw [textI_app, textI_app, List.length_append, List.length_append]
    have e1 : (textI ((ahead (locOf r p) d.neg).map (prtI (locOf r p).r))).length = (textI ((ahead (locOf r p) d.neg).map (prtI r))).length := rfl
    have e2 : (textI ((behind (locOf r p) d.neg).map (prtI (locOf r p).r))).length = (textI ((behind (locOf r p) d.neg).map (prtI r))).length := rfl
    omega
end
end Go.Proofs.YthoicieckodneaaGreatDoor.Loc
