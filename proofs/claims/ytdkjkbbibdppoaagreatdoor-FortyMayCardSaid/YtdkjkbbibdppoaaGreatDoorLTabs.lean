/- Openings of a law's arguments: the six numbers of a record's making; the two listed tables. -/
import Derived.Test.YtdkjkbbibdppoaaGreatDoorJPat4
import Derived.Test.YtdkjkbbibdppoaaGreatDoorJClus
import Derived.Lib.LaidU8T
import Derived.WideShapes
import Derived.RowKit
import Derived.ChangeSlices
namespace Go.Proofs.YtdkjkbbibdppoaaGreatDoor.Loc
open Go.RowKit Utf All Small Strs Build Pat Cls Go.ChangeShapes Go.WideShapes
set_option linter.unusedVariables false
set_option linter.unusedSimpArgs false

theorem tabs_in {W : World} {l : List (String × DataW Unit)} (hL : laidMet Tryz.prog l W) (h1 : ("unicode/utf8.first", Lib.firstData) ∈ l) (h2 : ("unicode/utf8.acceptRanges", Lib.acceptData) ∈ l) : Tabs W :=
  utf8Tabs_of_readsT (U8Types.of196 Tryz.laysValid) ⟨by kernel_rfl, by kernel_rfl, by kernel_rfl, by kernel_rfl, by kernel_rfl, by kernel_rfl, by kernel_rfl⟩ (Lib.laidMet.reads hL h1) (Lib.laidMet.reads hL h2)
set_option maxRecDepth 100000 in
set_option maxHeartbeats 1000000 in
theorem open_g {H : Type} {enc : TypeId × Value → H} {W : World} {r : Reach} {base : Nat} {v : Value} {d : DataW H} {ps : List MemPlace} (hv : Value.okWide Tryz.prog W r base 43 v) (h : DataW.Trod enc Tryz.prog W 0 (fun _ => true) true 43 v d ps) :
    ∃ (v0 v1 v2 v3 v4 v5 : Int), v = .agg #[.int .i64 v0, .int .i64 v1, .int .i64 v2, .int .i64 v3, .int .i64 v4, .int .i64 v5] ∧ i64 v0 ∧ i64 v1 ∧ i64 v2 ∧ i64 v3 ∧ i64 v4 ∧ i64 v5 := by
  obtain ⟨cs, rfl, hsz⟩ := okWide_struct Tryz.underlying43 hv
  have h6 : Tryz.prog.cellsOf 43 = 6 := by kernel_rfl
  have c1 : Tryz.prog.cellsOf 3 = 1 := by kernel_rfl
  rw [h6] at hsz
  obtain ⟨fuel, hf⟩ := h
  obtain ⟨xs, n, _, _, _, hxl, hfld⟩ := DataW.trod_struct Tryz.underlying43 hf
  have hcs : (Value.agg cs).cells.toList = cs.toList := rfl
  rw [hcs] at hfld
  obtain ⟨l⟩ := cs
  have hl : l.length = 6 := hsz
  match l, hl with
  | [w0, w1, w2, w3, w4, w5], _ =>
    obtain ⟨y0, e0⟩ := some_at hxl (i := 0) (by decide)
    obtain ⟨y1, e1⟩ := some_at hxl (i := 1) (by decide)
    obtain ⟨y2, e2⟩ := some_at hxl (i := 2) (by decide)
    obtain ⟨y3, e3⟩ := some_at hxl (i := 3) (by decide)
    obtain ⟨y4, e4⟩ := some_at hxl (i := 4) (by decide)
    obtain ⟨y5, e5⟩ := some_at hxl (i := 5) (by decide)
    have f0 := (hfld 0 _ rfl).trans e0
    have f1 := (hfld 1 _ rfl).trans e1
    have f2 := (hfld 2 _ rfl).trans e2
    have f3 := (hfld 3 _ rfl).trans e3
    have f4 := (hfld 4 _ rfl).trans e4
    have f5 := (hfld 5 _ rfl).trans e5
    simp only [c1, List.drop_succ_cons, List.drop_zero, List.take_succ_cons, List.take_zero] at f0 f1 f2 f3 f4 f5
    obtain ⟨n0, rfl, b0⟩ := open_int_cell f0
    obtain ⟨n1, rfl, b1⟩ := open_int_cell f1
    obtain ⟨n2, rfl, b2⟩ := open_int_cell f2
    obtain ⟨n3, rfl, b3⟩ := open_int_cell f3
    obtain ⟨n4, rfl, b4⟩ := open_int_cell f4
    obtain ⟨n5, rfl, b5⟩ := open_int_cell f5
    exact ⟨n0, n1, n2, n3, n4, n5, rfl, b0, b1, b2, b3, b4, b5⟩
end Go.Proofs.YtdkjkbbibdppoaaGreatDoor.Loc
