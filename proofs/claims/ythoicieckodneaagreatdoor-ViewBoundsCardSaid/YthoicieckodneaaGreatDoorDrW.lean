/- A draft's cells; a draft made one that may be (plain). -/
import Derived.Test.YthoicieckodneaaGreatDoorJIt
import Derived.Test.YthoicieckodneaaGreatDoorJLocE
import Derived.Test.YthoicieckodneaaGreatDoorJPat4
namespace Go.Proofs.YthoicieckodneaaGreatDoor.Loc
open Go.RowKit Utf All Small Strs Build EncC Pat Cls Dec Go.Proofs.YthoicieckodneaaGreatDoor.Sys Go.ChangeShapes Go.WideShapes
set_option linter.unusedVariables false
set_option linter.unusedSimpArgs false

def intV (xs : List Int) : List Value := xs.map (Value.int .i64)
def drV (A : Option Addr) (c : Nat) (B : Option Addr) (e : Nat) (d : Dr) : List Value := [.bool d.neg, .slice A d.int.length c, .bool d.sep, .slice B d.frac.length e]
structure DrR (W : World) (A B : Option Addr) (d : Dr) : Prop where
  int : Row W A (d.int.map (Value.int .i64))
  frac : Row W B (d.frac.map (Value.int .i64))
theorem DrR.ext {W W' : World} {A B : Option Addr} {d : Dr} (h : DrR W A B d) (hx : Ext W W') : DrR W' A B d := ⟨h.int.below hx (Nat.le_refl _), h.frac.below hx (Nat.le_refl _)⟩
structure DrI (d : Dr) : Prop where
  int : ∀ x ∈ d.int, i64 x
  frac : ∀ x ∈ d.frac, i64 x
def goodL (xs : List Int) (m : Nat) : List Int := (xs.take m).map fun x => aroundF x 10
def goodD (d : Dr) (m n : Nat) : Dr := ⟨d.neg, goodL d.int m, d.sep, if d.sep then goodL d.frac n else []⟩
theorem goodL_bd (xs : List Int) (m : Nat) : ∀ x ∈ goodL xs m, 0 ≤ x ∧ x ≤ 9 := by
  intro x hx
  obtain ⟨y, _, rfl⟩ := List.mem_map.1 hx
  have := aroundF_bd y 10 (by omega)
  omega
theorem goodL_len (xs : List Int) (m : Nat) : (goodL xs m).length ≤ m := by unfold goodL; rw [List.length_map, List.length_take]; omega
theorem good_ok (d : Dr) (m n : Nat) : DrOk (goodD d m n) := by
  refine ⟨goodL_bd _ _, fun x hx => ?_, fun h => ?_⟩
  · unfold goodD at hx
    simp only at hx
    split at hx
    · exact goodL_bd _ _ x hx
    · cases hx
  · unfold goodD at h ⊢
    simp only at h ⊢
    rw [h]; rfl
theorem good_intl (d : Dr) (m n : Nat) : (goodD d m n).int.length ≤ m := goodL_len _ _
theorem good_fracl (d : Dr) (m n : Nat) : (goodD d m n).frac.length ≤ n := by
  unfold goodD
  simp only
  split
  · exact goodL_len _ _
  · exact Nat.zero_le _
theorem goodL_snoc (xs : List Int) {k : Nat} (h : k < xs.length) : (xs.take (k + 1)).map (fun x => aroundF x 10) = (xs.take k).map (fun x => aroundF x 10) ++ [aroundF xs[k] 10] := by
  rw [List.take_succ_eq_append_getElem h, List.map_append]; rfl
set_option maxRecDepth 100000 in
set_option maxHeartbeats 1000000 in
theorem open_d {H : Type} {enc : TypeId × Value → H} {W : World} {r : Reach} {base : Nat} {v : Value} {d : DataW H} {ps : List MemPlace} (hv : Value.okWide Tryz.prog W r base 26 v) (h : DataW.Trod enc Tryz.prog W 0 (fun _ => true) true 26 v d ps) :
    ∃ (A B : Option Addr) (c e : Nat) (g : Dr), v = .agg (drV A c B e g).toArray ∧ DrR W A B g ∧ DrI g := by
  obtain ⟨cs, rfl, hsz⟩ := okWide_struct Tryz.underlying26 hv
  have h4 : Tryz.prog.cellsOf 26 = 4 := by kernel_rfl
  have c2 : Tryz.prog.cellsOf 24 = 1 := by kernel_rfl
  have c3 : Tryz.prog.cellsOf 4 = 1 := by kernel_rfl
  rw [h4] at hsz
  obtain ⟨fuel, hf⟩ := h
  obtain ⟨xs, n, _, _, _, hxl, hfld⟩ := DataW.trod_struct Tryz.underlying26 hf
  have hcs : (Value.agg cs).cells.toList = cs.toList := rfl
  rw [hcs] at hfld
  obtain ⟨l⟩ := cs
  have hl : l.length = 4 := hsz
  match l, hl with
  | [v0, v1, v2, v3], _ =>
    obtain ⟨y0, e0⟩ := some_at hxl (i := 0) (by decide)
    obtain ⟨y1, e1⟩ := some_at hxl (i := 1) (by decide)
    obtain ⟨y2, e2⟩ := some_at hxl (i := 2) (by decide)
    obtain ⟨y3, e3⟩ := some_at hxl (i := 3) (by decide)
    have f0 := (hfld 0 _ rfl).trans e0
    have f1 := (hfld 1 _ rfl).trans e1
    have f2 := (hfld 2 _ rfl).trans e2
    have f3 := (hfld 3 _ rfl).trans e3
    simp only [c2, c3, List.drop_succ_cons, List.drop_zero, List.take_succ_cons, List.take_zero] at f0 f1 f2 f3
    obtain ⟨neg, rfl⟩ := open_bool_cell f0
    obtain ⟨A, ca, xa, rfl, ra, ba⟩ := open_slice_ints f1
    obtain ⟨sep, rfl⟩ := open_bool_cell f2
    obtain ⟨B, cb, xb, rfl, rb, bb⟩ := open_slice_ints f3
    exact ⟨A, B, ca, cb, ⟨neg, xa, sep, xb⟩, rfl, ⟨ra, rb⟩, ⟨ba, bb⟩⟩
end Go.Proofs.YthoicieckodneaaGreatDoor.Loc
