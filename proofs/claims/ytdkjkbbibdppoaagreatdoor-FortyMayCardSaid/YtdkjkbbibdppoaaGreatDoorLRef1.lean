/- The document's reading of a pattern, by reckoning: where the check says yes, the document's Parse gives that pattern. -/
import Derived.Test.YtdkjkbbibdppoaaGreatDoorJPRp
import Derived.Test.YtdkjkbbibdppoaaGreatDoorJLocA
namespace Go.Proofs.YtdkjkbbibdppoaaGreatDoor.Loc
open Go.RowKit Utf All Small Strs Build EncC Pat
set_option linter.unusedVariables false
set_option linter.unusedSimpArgs false

def halfOkB (l : List Pc) (n0 n1 : Nat) (t : NSt) : Bool := decide (n0 < n1) && decide (n1 ≤ l.length) &&
  (List.range l.length).all (fun k => match l[k]? with | some x => (if n0 ≤ k ∧ k < n1 then x.1 == 4 else !(x.1 == 4)) | none => true) &&
  decide (tot l ≤ 10000) && l.all (fun p => !p.2.isEmpty) && decide (Pat.runN st0 (textOf ((l.drop n0).take (n1 - n0))) = some t) && endN t && !longN t
theorem halfOk_of {l : List Pc} {n0 n1 : Nat} {t : NSt} (h : halfOkB l n0 n1 t = true) : HalfOk l n0 n1 t := by
  unfold halfOkB at h
  simp only [Bool.and_eq_true, decide_eq_true_eq, List.all_eq_true, Bool.not_eq_true'] at h
  obtain ⟨⟨⟨⟨⟨⟨⟨h1, h2⟩, h3⟩, h4⟩, h5⟩, h6⟩, h7⟩, h8⟩ := h
  have hk : ∀ k (hk : k < l.length), (if n0 ≤ k ∧ k < n1 then l[k].1 == 4 else !(l[k].1 == 4)) = true := fun k hk => by
    have := h3 k (List.mem_range.2 hk)
    rw [List.getElem?_eq_getElem hk] at this
    exact this
  refine ⟨h1, h2, fun k h hlt => ?_, fun k h ha hb => ?_, fun k h ha => ?_, h4, fun p hp e => ?_, h6, h7, h8⟩
  · have := hk k h; rw [if_neg (by omega)] at this; simpa using this
  · have := hk k h; rw [if_pos ⟨ha, hb⟩] at this; exact this
  · have := hk k h; rw [if_neg (by omega)] at this; simpa using this
  · have := h5 p hp; rw [e] at this; cases this
def cut0 (l : List Pc) : Nat := (l.takeWhile fun x => !(x.1 == 4)).length
def cut1 (l : List Pc) : Nat := cut0 l + ((l.drop (cut0 l)).takeWhile fun x => x.1 == 4).length
def stOf (l : List Pc) : NSt := (Pat.runN st0 (textOf ((l.drop (cut0 l)).take (cut1 l - cut0 l)))).getD st0
def halfC (l : List Pc) : Bool := halfOkB l (cut0 l) (cut1 l) (stOf l)
def refP (s : List UInt8) : Option Pt := match tokL s with
  | none => none
  | some l =>
    let n := (l.takeWhile fun x => !(x.1 == 5)).length
    if decide (l.length ≤ 10000) && decide (n ≤ l.length) && ((List.range l.length).all fun k => match l[k]? with | some x => (if k = n then x.1 == 5 else !(x.1 == 5)) | none => true) && halfC (l.take n) && (decide (l.length ≤ n) || halfC (l.drop (n + 1))) then
      some (if n < l.length then ⟨joinF ((l.take n).take (cut0 (l.take n))), joinF ((l.take n).drop (cut1 (l.take n))), joinF ((l.drop (n + 1)).take (cut0 (l.drop (n + 1)))), joinF ((l.drop (n + 1)).drop (cut1 (l.drop (n + 1)))), numsN (stOf (l.take n))⟩
        else ⟨joinF ((l.take n).take (cut0 (l.take n))), joinF ((l.take n).drop (cut1 (l.take n))), (3, []) :: joinF ((l.take n).take (cut0 (l.take n))), joinF ((l.take n).drop (cut1 (l.take n))), numsN (stOf (l.take n))⟩)
    else none
theorem refP_ok {s : List UInt8} {p : Pt} (h : refP s = some p) (hs : s.length ≤ 1000000) (w : World) :
    Calls Tryz.prog 13 #[.string ⟨s.toArray⟩] w fun e w' => ∃ A c B d C a D b, e = .returned (.tuple #[.agg (patC (.slice A p.pre.length c) (.slice B p.suf.length d) (.slice C p.npre.length a) (.slice D p.nsuf.length b) p.num).toArray, .int .i64 0]) ∧ PtR w' A B C D p ∧ CapR p c d a b ∧ Ext w w' := by
  unfold refP at h
  cases ht : tokL s with
  | none => rw [ht] at h; cases h
  | some l =>
    rw [ht] at h
    simp only at h
    generalize hn : (l.takeWhile fun x => !(x.1 == 5)).length = n at h
    split at h
    · rename_i hc
      simp only [Bool.and_eq_true, Bool.or_eq_true, decide_eq_true_eq, List.all_eq_true] at hc
      obtain ⟨⟨⟨⟨h1, h2⟩, h3⟩, h4⟩, h5⟩ := hc
      have hk : ∀ k (hk : k < l.length), (if k = n then l[k].1 == 5 else !(l[k].1 == 5)) = true := fun k hk => by
        have := h3 k (List.mem_range.2 hk)
        rw [List.getElem?_eq_getElem hk] at this
        exact this
      exact parse_refC s l n _ _ _ _ _ _ w hs ht h1 h2 (fun k h hne => by have := hk k h; rw [if_neg hne] at this; simpa using this) (fun h => by have := hk n h; rw [if_pos rfl] at this; exact this)
        (halfOk_of h4) (fun hlt => halfOk_of (h5.resolve_left (by omega))) p (Option.some.inj h).symm
    · cases h
/-- the patterns of the records that the document makes -/
def pats : List (List UInt8) := [[35, 44, 35, 35, 48, 46, 48, 48], [48, 46, 35, 35], [35, 44, 35, 35, 44, 35, 35, 48, 46, 35, 35, 35], [194, 164, 35, 44, 35, 35, 48, 46, 48, 48], [35, 44, 35, 35, 48, 46, 48, 48, 120, 194, 164], [194, 164, 120, 35, 44, 35, 35, 48, 46, 48, 48, 59, 40, 194, 164, 120, 45, 35, 41], [35, 44, 35, 35, 48, 37], [48, 46, 48, 59, 48, 46, 48, 45], [35, 44, 35, 35, 35, 48, 46, 48, 48, 121, 59, 121, 35, 44, 35, 35, 48, 46, 48, 48, 45, 121], [35, 44, 35, 35, 44, 35, 48, 46, 35, 59, 39, 35, 39, 35, 45, 39, 35, 39]]
def patAt (j : Nat) : Pt := (refP (pats.getD j [])).getD lives1
theorem pats_all : ∀ j : Fin 10, refP (pats.getD j.val []) = some (patAt j.val) ∧ parseF (pats.getD j.val []) = .ok (patAt j.val) := by
  intro j
  match j with
  | 0 => exact ⟨by kernel_rfl, by kernel_rfl⟩
  | 1 => exact ⟨by kernel_rfl, by kernel_rfl⟩
  | 2 => exact ⟨by kernel_rfl, by kernel_rfl⟩
  | 3 => exact ⟨by kernel_rfl, by kernel_rfl⟩
  | 4 => exact ⟨by kernel_rfl, by kernel_rfl⟩
  | 5 => exact ⟨by kernel_rfl, by kernel_rfl⟩
  | 6 => exact ⟨by kernel_rfl, by kernel_rfl⟩
  | 7 => exact ⟨by kernel_rfl, by kernel_rfl⟩
  | 8 => exact ⟨by kernel_rfl, by kernel_rfl⟩
  | 9 => exact ⟨by kernel_rfl, by kernel_rfl⟩
end Go.Proofs.YtdkjkbbibdppoaaGreatDoor.Loc
