/- What a text is made of (abacistref10.G), opened: from the row's reading of the argument to its cells. -/
import Derived.Test.YtdkjkbbibdppoaaGreatDoorPatX
import Derived.ChangeSlices
import Derived.WideShapes
import Derived.RowKit
namespace Go.Proofs.YtdkjkbbibdppoaaGreatDoor.Pat
open Go.RowKit Go.ChangeShapes Go.WideShapes Utf All Small
set_option linter.unusedVariables false
set_option linter.unusedSimpArgs false

theorem i64_of {n : Int} (h : (Lit.int .i64 n).wf = true) : i64 n := ⟨(bounds_i64 h).1, (bounds_i64 h).2⟩
theorem open_slice_ints {H : Type} {enc : TypeId × Value → H} {W : World} {fuel : Nat} {v : Value} {x : DataW H × List MemPlace} (h : DataW.trod enc Tryz.prog W 0 (fun _ => true) true fuel 22 [v] = some x) :
    ∃ (A : Option Addr) (cap : Nat) (xs : List Int), v = .slice A xs.length cap ∧ Row W A (xs.map (Value.int .i64)) ∧ ∀ z ∈ xs, i64 z := by
  rcases open_ints Tryz.underlying22 Tryz.underlying3 (by kernel_rfl) h with ⟨hcs, _⟩ | ⟨a, l, c, zs, hcs, _, hl, hm, hz, _, hcell, hwz⟩
  · injection hcs with hcs _
    exact ⟨none, 0, [], hcs, .inl rfl, by simp⟩
  · injection hcs with hcs _
    obtain ⟨_, _, xs, hx, hr, hw⟩ := row_of_is (w := W) (a := some a) (len := l) (cap := c) (zs := zs) (.inr ⟨a, rfl, hl, hm, by simpa using hz, hcell, hwz⟩)
    exact ⟨some a, c, xs, by rw [hx]; exact hcs, hr, fun z hz' => i64_of (hw z hz')⟩
theorem open_int_cell {H : Type} {enc : TypeId × Value → H} {W : World} {fuel : Nat} {v : Value} {x : DataW H × List MemPlace} (h : DataW.trod enc Tryz.prog W 0 (fun _ => true) true fuel 3 [v] = some x) : ∃ n, v = .int .i64 n ∧ i64 n := by
  obtain ⟨n, hcs, _, hw⟩ := DataW.trod_int Tryz.underlying3 h
  injection hcs with hcs _
  exact ⟨n, hcs, i64_of hw⟩
theorem open_bool_cell {H : Type} {enc : TypeId × Value → H} {W : World} {fuel : Nat} {v : Value} {x : DataW H × List MemPlace} (h : DataW.trod enc Tryz.prog W 0 (fun _ => true) true fuel 4 [v] = some x) : ∃ b, v = .bool b := by
  obtain ⟨n, hcs, _⟩ := DataW.trod_bool Tryz.underlying4 h
  injection hcs with hcs _
  exact ⟨n, hcs⟩
theorem some_at {α : Type} {xs : List α} {n : Nat} (h : xs.length = n) {i : Nat} (hi : i < n) : ∃ y, xs[i]? = some y := ⟨xs[i]'(by omega), List.getElem?_eq_getElem (by omega)⟩
set_option maxRecDepth 100000 in
set_option maxHeartbeats 1000000 in
theorem open_gg {H : Type} {enc : TypeId × Value → H} {W : World} {r : Reach} {base : Nat} {v : Value} {d : DataW H} {ps : List MemPlace} (hv : Value.okWide Tryz.prog W r base 24 v) (h : DataW.Trod enc Tryz.prog W 0 (fun _ => true) true 24 v d ps) :
    ∃ (A B C D : Option Addr) (c e a b : Nat) (g : GG), v = .agg (ggV A B C D c e a b g).toArray ∧ GgR W A B C D g := by
  obtain ⟨cs, rfl, hsz⟩ := okWide_struct Tryz.underlying24 hv
  have h10 : Tryz.prog.cellsOf 24 = 10 := by kernel_rfl
  have c1 : Tryz.prog.cellsOf 3 = 1 := by kernel_rfl
  have c2 : Tryz.prog.cellsOf 22 = 1 := by kernel_rfl
  have c3 : Tryz.prog.cellsOf 4 = 1 := by kernel_rfl
  rw [h10] at hsz
  obtain ⟨fuel, hf⟩ := h
  obtain ⟨xs, n, _, _, _, hxl, hfld⟩ := DataW.trod_struct Tryz.underlying24 hf
  have hcs : (Value.agg cs).cells.toList = cs.toList := rfl
  rw [hcs] at hfld
  obtain ⟨l⟩ := cs
  have hl : l.length = 10 := hsz
  match l, hl with
  | [v0, v1, v2, v3, v4, v5, v6, v7, v8, v9], _ =>
    obtain ⟨y0, e0⟩ := some_at hxl (i := 0) (by decide)
    obtain ⟨y1, e1⟩ := some_at hxl (i := 1) (by decide)
    obtain ⟨y2, e2⟩ := some_at hxl (i := 2) (by decide)
    obtain ⟨y3, e3⟩ := some_at hxl (i := 3) (by decide)
    obtain ⟨y4, e4⟩ := some_at hxl (i := 4) (by decide)
    obtain ⟨y5, e5⟩ := some_at hxl (i := 5) (by decide)
    obtain ⟨y6, e6⟩ := some_at hxl (i := 6) (by decide)
    obtain ⟨y7, e7⟩ := some_at hxl (i := 7) (by decide)
    obtain ⟨y8, e8⟩ := some_at hxl (i := 8) (by decide)
    obtain ⟨y9, e9⟩ := some_at hxl (i := 9) (by decide)
    have f0 := (hfld 0 _ rfl).trans e0
    have f1 := (hfld 1 _ rfl).trans e1
    have f2 := (hfld 2 _ rfl).trans e2
    have f3 := (hfld 3 _ rfl).trans e3
    have f4 := (hfld 4 _ rfl).trans e4
    have f5 := (hfld 5 _ rfl).trans e5
    have f6 := (hfld 6 _ rfl).trans e6
    have f7 := (hfld 7 _ rfl).trans e7
    have f8 := (hfld 8 _ rfl).trans e8
    have f9 := (hfld 9 _ rfl).trans e9
    simp only [c1, c2, c3, List.drop_succ_cons, List.drop_zero, List.take_succ_cons, List.take_zero] at f0 f1 f2 f3 f4 f5 f6 f7 f8 f9
    obtain ⟨A, ca, xa, rfl, ra, ba⟩ := open_slice_ints f0
    obtain ⟨B, cb, xb, rfl, rb, bb⟩ := open_slice_ints f1
    obtain ⟨tw, rfl⟩ := open_bool_cell f2
    obtain ⟨C, cc, xc, rfl, rc, bc⟩ := open_slice_ints f3
    obtain ⟨D, cd, xd, rfl, rd, bd⟩ := open_slice_ints f4
    obtain ⟨n5, rfl, b5⟩ := open_int_cell f5
    obtain ⟨n6, rfl, b6⟩ := open_int_cell f6
    obtain ⟨n7, rfl, b7⟩ := open_int_cell f7
    obtain ⟨n8, rfl, b8⟩ := open_int_cell f8
    obtain ⟨n9, rfl, b9⟩ := open_int_cell f9
    exact ⟨A, B, C, D, ca, cb, cc, cd, ⟨xa, xb, tw, xc, xd, n5, n6, n7, n8, n9⟩, rfl, ⟨ra, rb, rc, rd, ba, bb, bc, bd, b5, b6, b7, b8, b9⟩⟩
end Go.Proofs.YtdkjkbbibdppoaaGreatDoor.Pat
