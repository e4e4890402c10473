/- A record that both sides read alike: the document's examples. -/
import Derived.Test.YtdkjkbbibdppoaaGreatDoorLGoodP
import Derived.Test.YtdkjkbbibdppoaaGreatDoorLRefP
import Derived.Test.YtdkjkbbibdppoaaGreatDoorJLocB
import Derived.Test.YtdkjkbbibdppoaaGreatDoorJLocC
namespace Go.Proofs.YtdkjkbbibdppoaaGreatDoor.Loc
open Go.RowKit Utf All Small Strs Build EncC Pat Cls Dec Go.Proofs.YtdkjkbbibdppoaaGreatDoor.Sys
set_option linter.unusedVariables false
set_option linter.unusedSimpArgs false

/-- a record that may be, its pattern read by both -/
structure Both (r : Rec) (p : Pt) : Prop where
  pat : parseF r.pattern = .ok p
  ref : refP r.pattern = some p
  plen : r.pattern.length ≤ 1000
  nm : nameZ r.name = true
  may : MayL ⟨r, p, digs r⟩
  prim : 0 ≤ p.num.prim
  pcs : ∀ q ∈ affsP p, ∀ x ∈ q, 0 ≤ x.1 ∧ x.1 < 4 ∧ x.2.length ≤ 6
def locOf (r : Rec) (p : Pt) : Loc := ⟨r, p, digs r⟩
theorem pats_len : ∀ j : Fin 10, (pats.getD j.val []).length ≤ 1000 := by decide
theorem both_mk (s j i m a b : Nat) (g : List UInt8) (hs : s < 20) (hj : j < 10) (hi : i < 4) (hm : m < 4) (ha : a < 2) (hb : b < 4)
    (hg : if (patAt j).num.prim > 0 then g ∈ allGrps ∧ g ≠ decs.getD i [] else g = []) : Both (mkR s j i m a b g) (patAt j) := by
  have hp := pats_ok ⟨j, hj⟩
  unfold patOk at hp
  simp only [Bool.and_eq_true, Bool.or_eq_true, decide_eq_true_eq, List.all_eq_true, Bool.not_eq_true', decide_eq_false_iff_not] at hp
  exact ⟨(pats_all ⟨j, hj⟩).2, (pats_all ⟨j, hj⟩).1, pats_len ⟨j, hj⟩, by kernel_rfl, may_mk s j i m a b g hs hj hi hm ha hb hg, hp.1.1.1.1, fun q hq x hx =>
    ⟨((hp.2 q hq).2 x hx).1.1.1, ((hp.2 q hq).2 x hx).1.1.2, ((hp.2 q hq).2 x hx).1.2⟩⟩
theorem both_good (v0 v1 v2 v3 v4 v5 : Int) : Both (goodR v0 v1 v2 v3 v4 v5) (patAt (aroundF v1 10).toNat) := by
  obtain ⟨s, j, i, m, a, b, g, hs, hj, hi, hm, ha, hb, hg, he, hk⟩ := good_mk v0 v1 v2 v3 v4 v5
  rw [he, hk]
  exact both_mk s j i m a b g hs hj hi hm ha hb hg
section
variable {r : Rec} {p : Pt}
theorem Both.s_pre (h : Both r p) : nSign (ahead (locOf r p) false) = 0 := by
  show nSign (partsF _ _) = 0
  rw [parts_sign]; exact h.may.s0
theorem Both.count (h : Both r p) (neg : Bool) : nSign (ahead (locOf r p) neg) + nSign (behind (locOf r p) neg) = (if neg then 1 else 0) := by
  unfold ahead behind
  rw [parts_sign, parts_sign]
  have h0 := h.may.s0
  have h1 := h.may.s1
  have h2 := h.may.s2
  unfold cntA at h2
  cases neg
  · show cntK 3 p.pre + cntK 3 p.suf = 0
    exact (by rw [show cntK 3 p.pre = 0 from h0, show cntK 3 p.suf = 0 from h1])
  · show cntK 3 p.npre + cntK 3 p.nsuf = 1
    have e0 : cntK 3 p.pre = 0 := h0
    have e1 : cntK 3 p.suf = 0 := h1
    have e2 : cntK 3 p.pre + cntK 3 p.suf + cntK 3 p.npre + cntK 3 p.nsuf = 1 := h2
    omega
end
end Go.Proofs.YtdkjkbbibdppoaaGreatDoor.Loc
