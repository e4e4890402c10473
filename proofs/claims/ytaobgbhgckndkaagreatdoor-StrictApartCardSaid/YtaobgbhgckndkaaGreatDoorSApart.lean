/- The law StrictApart: two drafts that are shown alike are the same. (Printed by wip/gen/law17.py.) -/
import Derived.Test.YtaobgbhgckndkaaGreatDoorJStX
namespace Go.Proofs.YtaobgbhgckndkaaGreatDoor.Loc
open Go.RowKit Utf All Small Strs Build EncC Pat Cls Dec Go.Proofs.YtaobgbhgckndkaaGreatDoor.Sys
set_option linter.unusedVariables false
set_option linter.unusedSimpArgs false
theorem flip_ok {d : Dr} (h : DrOk d) : DrOk ⟨!d.neg, d.int, d.sep, d.frac⟩ := ⟨h.int, h.frac, h.sep⟩
theorem sep_ok {d : Dr} (h : DrOk d) : DrOk ⟨d.neg, d.int, true, d.frac⟩ := ⟨h.int, h.frac, fun e => by cases e⟩
def four {α : Type} (a b c d : α) : Nat → α
  | 0 => a
  | 1 => b
  | 2 => c
  | _ => d
/-- four drafts in one row -/
def fourV (V : Nat → List Value) : List Value := V 0 ++ (V 1 ++ (V 2 ++ V 3))
theorem four_range {W : World} {sb : Nat} {V : Nat → List Value} (hl : ∀ i, (V i).length = 4) (h : W.rangeAt sb 0 (fourV V)) {i : Nat} (hi : i < 4) : W.rangeAt sb (i * 4) (V i) := by
  intro j v hv
  have hj : j < 4 := by
    have := (List.getElem?_eq_some_iff.1 hv).1
    rw [hl] at this; exact this
  have h0 := hl 0
  have h1 := hl 1
  have h2 := hl 2
  have key : (fourV V)[i * 4 + j]? = some v := by
    unfold fourV
    have : i = 0 ∨ i = 1 ∨ i = 2 ∨ i = 3 := by omega
    rcases this with rfl | rfl | rfl | rfl
    · rw [List.getElem?_append_left (by omega)]; simpa using hv
    · rw [List.getElem?_append_right (by omega), List.getElem?_append_left (by omega), h0, show 1 * 4 + j - 4 = j by omega]; exact hv
    · rw [List.getElem?_append_right (by omega), List.getElem?_append_right (by omega), List.getElem?_append_left (by omega), h0, h1, show 2 * 4 + j - 4 - 4 = j by omega]; exact hv
    · rw [List.getElem?_append_right (by omega), List.getElem?_append_right (by omega), List.getElem?_append_right (by omega), h0, h1, h2, show 3 * 4 + j - 4 - 4 - 4 = j by omega]; exact hv
  have hh := h (i * 4 + j) v key
  rw [Nat.zero_add] at hh
  exact hh
set_option maxHeartbeats 16000000 in
set_option maxRecDepth 1000000 in
theorem law_StrictApart (v0 v1 v2 v3 v4 v5 n : Int) (A0 B0 : Option Addr) (c0 e0 : Nat) (d0 : Dr) (A1 B1 : Option Addr) (c1 e1 : Nat) (d1 : Dr) (w : World) (h0 : i64 v0) (h1 : i64 v1) (h2 : i64 v2) (h3 : i64 v3) (h4 : i64 v4) (h5 : i64 v5) (hn : i64 n) (hd : DrR w A0 B0 d0) (hi : DrI d0) (he : DrR w A1 B1 d1) (hj : DrI d1) (hT : Tabs w) :
    Calls Tryz.prog 10 #[.agg ([.int .i64 v0, .int .i64 v1, .int .i64 v2, .int .i64 v3, .int .i64 v4, .int .i64 v5] : List Value).toArray, .int .i64 n, .agg ([.bool d0.neg, .slice A0 d0.int.length c0, .bool d0.sep, .slice B0 d0.frac.length e0] : List Value).toArray, .agg ([.bool d1.neg, .slice A1 d1.int.length c1, .bool d1.sep, .slice B1 d1.frac.length e1] : List Value).toArray] w fun e w' => e = .returned (.bool true) ∧ Below w.heap.size w w' := by
  obtain ⟨r, p, hK, hBG⟩ := begin17_ v0 v1 v2 v3 v4 v5 n h0 h1 h2 h3 h4 h5 hn
  obtain ⟨ddx, hdokx, hdix, hdfx, hGdx, hEx⟩ : ∃ dd : Dr, DrOk dd ∧ dd.int.length ≤ 5 ∧ dd.frac.length ≤ 4 ∧ (∀ W, Ext w W → Calls Tryz.prog 20 #[.agg ([.bool d0.neg, .slice A0 d0.int.length c0, .bool d0.sep, .slice B0 d0.frac.length e0] : List Value).toArray, .int .i64 5, .int .i64 4] W fun e w' => ∃ X Y cx cy, e = .returned (.agg ([.bool dd.neg, .slice X dd.int.length cx, .bool dd.sep, .slice Y dd.frac.length cy] : List Value).toArray) ∧ DrR w' X Y dd ∧ Okc X cx ∧ Okc Y cy ∧ Ext W w') ∧ dd = goodD d0 5 4 :=
    ⟨goodD d0 5 4, good_ok _ _ _, good_intl d0 5 4, good_fracl d0 5 4, fun W hW => ref14_good A0 B0 c0 e0 d0 5 4 W (hd.ext hW) hi (by decide) (by decide), rfl⟩
  have HGDx := Lib.hid hGdx
  have HOKx := Lib.hid hdokx
  clear hGdx hdokx
  obtain ⟨ddy, hdoky, hdiy, hdfy, hGdy, hEy⟩ : ∃ dd : Dr, DrOk dd ∧ dd.int.length ≤ 5 ∧ dd.frac.length ≤ 4 ∧ (∀ W, Ext w W → Calls Tryz.prog 20 #[.agg ([.bool d1.neg, .slice A1 d1.int.length c1, .bool d1.sep, .slice B1 d1.frac.length e1] : List Value).toArray, .int .i64 5, .int .i64 4] W fun e w' => ∃ X Y cx cy, e = .returned (.agg ([.bool dd.neg, .slice X dd.int.length cx, .bool dd.sep, .slice Y dd.frac.length cy] : List Value).toArray) ∧ DrR w' X Y dd ∧ Okc X cx ∧ Okc Y cy ∧ Ext W w') ∧ dd = goodD d1 5 4 :=
    ⟨goodD d1 5 4, good_ok _ _ _, good_intl d1 5 4, good_fracl d1 5 4, fun W hW => ref14_good A1 B1 c1 e1 d1 5 4 W (he.ext hW) hj (by decide) (by decide), rfl⟩
  have HGDy := Lib.hid hGdy
  have HOKy := Lib.hid hdoky
  clear hGdy hdoky
  obtain ⟨ddv, hdokv, hdiv, hdfv, hGdv, hEv⟩ : ∃ dd : Dr, DrOk dd ∧ dd.int.length ≤ 5 ∧ dd.frac.length ≤ 0 ∧ (∀ W, Ext w W → Calls Tryz.prog 20 #[.agg ([.bool d0.neg, .slice A0 d0.int.length c0, .bool d0.sep, .slice B0 d0.frac.length e0] : List Value).toArray, .int .i64 5, .int .i64 0] W fun e w' => ∃ X Y cx cy, e = .returned (.agg ([.bool dd.neg, .slice X dd.int.length cx, .bool dd.sep, .slice Y dd.frac.length cy] : List Value).toArray) ∧ DrR w' X Y dd ∧ Okc X cx ∧ Okc Y cy ∧ Ext W w') ∧ dd = goodD d0 5 0 :=
    ⟨goodD d0 5 0, good_ok _ _ _, good_intl d0 5 0, good_fracl d0 5 0, fun W hW => ref14_good A0 B0 c0 e0 d0 5 0 W (hd.ext hW) hi (by decide) (by decide), rfl⟩
  have HGDv := Lib.hid hGdv
  have HOKv := Lib.hid hdokv
  clear hGdv hdokv
  have HK := Lib.hid hK.knd
  have HBG := Lib.hid hBG
  have HTW := Lib.hid hT
  have HLV : Hid (∀ W, Ext w W → Calls Tryz.prog 31 #[] W fun e w' => e = .returned (.bool true) ∧ Ext W w') := Lib.hid fun W hW => lives17 W (HTW.out.ext hW)
  obtain ⟨b1, b2, b3, hx1⟩ := boxes3 w 23 43 43 [.int .i64 v0, .int .i64 v1, .int .i64 v2, .int .i64 v3, .int .i64 v4, .int .i64 v5] [.bool d0.neg, .slice A0 d0.int.length c0, .bool d0.sep, .slice B0 d0.frac.length e0] [.bool d1.neg, .slice A1 d1.int.length c1, .bool d1.sep, .slice B1 d1.frac.length e1]
  have HRG := Lib.hid b1.range
  have HBA := Lib.hid b2
  have HBB := Lib.hid b3
  have HX1 := Lib.hid hx1
  clear hK hBG hd hi he hj hT b1 b2 b3 hx1 h0 h1 h2 h3 h4 h5 hn hEx hEy hEv
  go_enter Tryz.func10, Tryz.ntmps10
  go_upto_region 1 with fail
  change Code.wp _ _ _ _ (((w.alloc (.cells ([.int .i64 v0, .int .i64 v1, .int .i64 v2, .int .i64 v3, .int .i64 v4, .int .i64 v5] : List Value).toArray 23)).alloc (.cells ([.bool d0.neg, .slice A0 d0.int.length c0, .bool d0.sep, .slice B0 d0.frac.length e0] : List Value).toArray 43)).alloc (.cells ([.bool d1.neg, .slice A1 d1.int.length c1, .bool d1.sep, .slice B1 d1.frac.length e1] : List Value).toArray 43))
  generalize ((w.alloc (.cells ([.int .i64 v0, .int .i64 v1, .int .i64 v2, .int .i64 v3, .int .i64 v4, .int .i64 v5] : List Value).toArray 23)).alloc (.cells ([.bool d0.neg, .slice A0 d0.int.length c0, .bool d0.sep, .slice B0 d0.frac.length e0] : List Value).toArray 43)).alloc (.cells ([.bool d1.neg, .slice A1 d1.int.length c1, .bool d1.sep, .slice B1 d1.frac.length e1] : List Value).toArray 43) = w1 at *
  go_upto_region 2 with (first
    | (refine wpList_load_mid rfl 23 (.tmp 4) rfl w.heap.size 0 rfl [.int .i64 v0, .int .i64 v1, .int .i64 v2, .int .i64 v3, .int .i64 v4, .int .i64 v5] _ HRG.out Tryz.underlying23 rfl infoG ?_)
    | (go_at_call 26; with_reducible refine (HBG.out _ (HTW.out.ext HX1.out)).mono ?_; rintro e wb ⟨g, A, B, C, D, c, d, a, b, rfl, hlw, hxb⟩)
    | (refine wpList_store_fresh rfl 31 (.tmp 10) (.tmp 25) rfl ([.string ⟨r.name.toArray⟩, .string ⟨r.pattern.toArray⟩, .string ⟨r.system.toArray⟩, .string ⟨r.decimal.toArray⟩, .string ⟨r.group.toArray⟩, .string ⟨r.minus.toArray⟩, .string ⟨r.percent.toArray⟩, .string ⟨r.currency.toArray⟩, .slice A p.pre.length c, .slice B p.suf.length d, .slice C p.npre.length a, .slice D p.nsuf.length b, .int .i64 p.num.prim, .int .i64 p.num.sec, .int .i64 p.num.minInt, .int .i64 p.num.minFrac, .int .i64 p.num.maxFrac] : List Value).toArray 31 _ rfl rfl infoRL rfl (refL_one A B C D c d a b r p) ?_))
  have hxc : Ext wb (wb.alloc (.cells ([.string ⟨r.name.toArray⟩, .string ⟨r.pattern.toArray⟩, .string ⟨r.system.toArray⟩, .string ⟨r.decimal.toArray⟩, .string ⟨r.group.toArray⟩, .string ⟨r.minus.toArray⟩, .string ⟨r.percent.toArray⟩, .string ⟨r.currency.toArray⟩, .slice A p.pre.length c, .slice B p.suf.length d, .slice C p.npre.length a, .slice D p.nsuf.length b, .int .i64 p.num.prim, .int .i64 p.num.sec, .int .i64 p.num.minInt, .int .i64 p.num.minFrac, .int .i64 p.num.maxFrac] : List Value).toArray 31)) := Ext.alloc_ (Ext.refl _) _
  have HW := Lib.hid hlw
  have HXB := Lib.hid (HX1.out.trans (hxb.trans hxc))
  have HXS := Lib.hid (hxb.trans hxc)
  clear hlw hxb hxc
  generalize wb.alloc (.cells ([.string ⟨r.name.toArray⟩, .string ⟨r.pattern.toArray⟩, .string ⟨r.system.toArray⟩, .string ⟨r.decimal.toArray⟩, .string ⟨r.group.toArray⟩, .string ⟨r.minus.toArray⟩, .string ⟨r.percent.toArray⟩, .string ⟨r.currency.toArray⟩, .slice A p.pre.length c, .slice B p.suf.length d, .slice C p.npre.length a, .slice D p.nsuf.length b, .int .i64 p.num.prim, .int .i64 p.num.sec, .int .i64 p.num.minInt, .int .i64 p.num.minFrac, .int .i64 p.num.maxFrac] : List Value).toArray 31) = w3 at *
  generalize wb.heap.size = lb at *
  have HRA := Lib.hid (HBA.out.ext HXS.out).range
  have HRB := Lib.hid (HBB.out.ext HXS.out).range
  go_upto_region 5 with (first
    | (refine wpList_load_mid rfl 43 (.tmp 6) rfl (w.heap.size + 1) 0 rfl [.bool d0.neg, .slice A0 d0.int.length c0, .bool d0.sep, .slice B0 d0.frac.length e0] _ HRA.out Tryz.underlying43 rfl infoD14 ?_)
    | (go_at_call 20; with_reducible refine (HGDx.out _ HXB.out).mono ?_; rintro e wg ⟨Xx, Yx, cxx, cyx, rfl, hdr, oX, oY, hxg⟩)
    | (refine wpList_store_fresh rfl 43 (.tmp 11) (.tmp 29) rfl ([.bool ddx.neg, .slice Xx ddx.int.length cxx, .bool ddx.sep, .slice Yx ddx.frac.length cyx] : List Value).toArray 43 _ rfl rfl infoD14 rfl (by simp [Value.oneCell']) ?_))
  have HDx := Lib.hid (Dw.new (T := 43) hdr oX oY)
  have HYx := Lib.hid (hxg.trans (Ext.alloc_ (Ext.refl wg) (.cells ([.bool ddx.neg, .slice Xx ddx.int.length cxx, .bool ddx.sep, .slice Yx ddx.frac.length cyx] : List Value).toArray 43)))
  clear hdr oX oY hxg
  change Hid (Dw (wg.alloc (.cells ([.bool ddx.neg, .slice Xx ddx.int.length cxx, .bool ddx.sep, .slice Yx ddx.frac.length cyx] : List Value).toArray 43)) wg.heap.size 43 Xx cxx Yx cyx ddx) at HDx
  generalize wg.alloc (.cells ([.bool ddx.neg, .slice Xx ddx.int.length cxx, .bool ddx.sep, .slice Yx ddx.frac.length cyx] : List Value).toArray 43) = w5 at *
  generalize wg.heap.size = dbx at *
  have HX5 := Lib.hid (HXB.out.trans HYx.out)
  have HRB := Lib.hid (HBB.out.ext (HXS.out.trans HYx.out)).range
  go_upto_region 6 with (first
    | (refine wpList_load_mid rfl 43 (.tmp 7) rfl (w.heap.size + 1 + 1) 0 rfl [.bool d1.neg, .slice A1 d1.int.length c1, .bool d1.sep, .slice B1 d1.frac.length e1] _ HRB.out Tryz.underlying43 rfl infoD14 ?_)
    | (go_at_call 20; with_reducible refine (HGDy.out _ HX5.out).mono ?_; rintro e wg ⟨Xy, Yy, cxy, cyy, rfl, hdr, oX, oY, hxg⟩)
    | (refine wpList_store_fresh rfl 43 (.tmp 12) (.tmp 31) rfl ([.bool ddy.neg, .slice Xy ddy.int.length cxy, .bool ddy.sep, .slice Yy ddy.frac.length cyy] : List Value).toArray 43 _ rfl rfl infoD14 rfl (by simp [Value.oneCell']) ?_))
  have HDy := Lib.hid (Dw.new (T := 43) hdr oX oY)
  have HYy := Lib.hid (hxg.trans (Ext.alloc_ (Ext.refl wg) (.cells ([.bool ddy.neg, .slice Xy ddy.int.length cxy, .bool ddy.sep, .slice Yy ddy.frac.length cyy] : List Value).toArray 43)))
  clear hdr oX oY hxg
  change Hid (Dw (wg.alloc (.cells ([.bool ddy.neg, .slice Xy ddy.int.length cxy, .bool ddy.sep, .slice Yy ddy.frac.length cyy] : List Value).toArray 43)) wg.heap.size 43 Xy cxy Yy cyy ddy) at HDy
  generalize wg.alloc (.cells ([.bool ddy.neg, .slice Xy ddy.int.length cxy, .bool ddy.sep, .slice Yy ddy.frac.length cyy] : List Value).toArray 43) = w7 at *
  generalize wg.heap.size = dby at *
  have HDX7 := Lib.hid (HDx.out.ext HYy.out)
  have HRX7 := Lib.hid HDX7.out.box.range
  go_upto_region 7 with (first
    | (refine wpList_load_mid rfl 43 (.tmp 11) rfl dbx 0 rfl [.bool ddx.neg, .slice Xx ddx.int.length cxx, .bool ddx.sep, .slice Yx ddx.frac.length cyx] _ HRX7.out Tryz.underlying43 rfl infoD14 ?_)
    | (refine wpList_store_fresh rfl 43 (.tmp 13) (.tmp 32) rfl ([.bool ddx.neg, .slice Xx ddx.int.length cxx, .bool ddx.sep, .slice Yx ddx.frac.length cyx] : List Value).toArray 43 _ rfl rfl infoD14 rfl (by simp [Value.oneCell']) ?_))
  have hz := Dw.new (T := 43) HDX7.out.dr HDX7.out.ox HDX7.out.oy
  change Dw (w7.alloc (.cells ([.bool ddx.neg, .slice Xx ddx.int.length cxx, .bool ddx.sep, .slice Yx ddx.frac.length cyx] : List Value).toArray 43)) w7.heap.size 43 Xx cxx Yx cyx ddx at hz
  have hxz : Ext w7 (w7.alloc (.cells ([.bool ddx.neg, .slice Xx ddx.int.length cxx, .bool ddx.sep, .slice Yx ddx.frac.length cyx] : List Value).toArray 43)) := Ext.alloc_ (Ext.refl _) _
  generalize w7.alloc (.cells ([.bool ddx.neg, .slice Xx ddx.int.length cxx, .bool ddx.sep, .slice Yx ddx.frac.length cyx] : List Value).toArray 43) = w8 at *
  have hle7 : w7.heap.size ≤ w7.heap.size := Nat.le_refl _
  have HLE7 := Lib.hid hle7
  clear hle7
  generalize hdbz : w7.heap.size = dbz at *
  have HDBZ := Lib.hid hdbz
  clear hdbz HLE7
  have q0 := (HDX7.out.ext hxz).box.cell (j := 0) (v := .bool ddx.neg) rfl
  have z0 := hz.box.cell (j := 0) (v := .bool ddx.neg) rfl
  have f0 := hz.box.frozen 0
  have HHZ := Lib.hid hz
  have HXZ := Lib.hid hxz
  clear hz hxz
  go_upto_region 8 with fail
  have HZB : Hid (Box (w8.setCell ⟨dbz, 0, none⟩ (.bool (!ddx.neg))) dbz 43 [.bool (!ddx.neg), .slice Xx ddx.int.length cxx, .bool ddx.sep, .slice Yx ddx.frac.length cyx]) := Lib.hid (HHZ.out.box.setCell 0 (.bool (!ddx.neg)))
  have HX9 : Hid (Ext w7 (w8.setCell ⟨dbz, 0, none⟩ (.bool (!ddx.neg)))) := Lib.hid (Ext.setCell_ HXZ.out (Nat.le_of_eq HDBZ.out) 0 (.bool (!ddx.neg)))
  clear HHZ HXZ HDBZ q0 z0 f0
  generalize w8.setCell ⟨dbz, 0, none⟩ (.bool (!ddx.neg)) = w9 at *
  have HX9W := Lib.hid (HX5.out.trans (HYy.out.trans HX9.out))
  have HRA := Lib.hid (HBA.out.ext (HXS.out.trans (HYx.out.trans (HYy.out.trans HX9.out)))).range
  go_upto_region 9 with (first
    | (refine wpList_load_mid rfl 43 (.tmp 6) rfl (w.heap.size + 1) 0 rfl [.bool d0.neg, .slice A0 d0.int.length c0, .bool d0.sep, .slice B0 d0.frac.length e0] _ HRA.out Tryz.underlying43 rfl infoD14 ?_)
    | (go_at_call 20; with_reducible refine (HGDv.out _ HX9W.out).mono ?_; rintro e wg ⟨Xv, Yv, cxv, cyv, rfl, hdr, oX, oY, hxg⟩)
    | (refine wpList_store_fresh rfl 43 (.tmp 14) (.tmp 38) rfl ([.bool ddv.neg, .slice Xv ddv.int.length cxv, .bool ddv.sep, .slice Yv ddv.frac.length cyv] : List Value).toArray 43 _ rfl rfl infoD14 rfl (by simp [Value.oneCell']) ?_))
  have HDv := Lib.hid (Dw.new (T := 43) hdr oX oY)
  have HYv := Lib.hid (hxg.trans (Ext.alloc_ (Ext.refl wg) (.cells ([.bool ddv.neg, .slice Xv ddv.int.length cxv, .bool ddv.sep, .slice Yv ddv.frac.length cyv] : List Value).toArray 43)))
  have hgsz := hxg.size
  clear hdr oX oY hxg
  change Hid (Dw (wg.alloc (.cells ([.bool ddv.neg, .slice Xv ddv.int.length cxv, .bool ddv.sep, .slice Yv ddv.frac.length cyv] : List Value).toArray 43)) wg.heap.size 43 Xv cxv Yv cyv ddv) at HDv
  generalize wg.alloc (.cells ([.bool ddv.neg, .slice Xv ddv.int.length cxv, .bool ddv.sep, .slice Yv ddv.frac.length cyv] : List Value).toArray 43) = w10 at *
  have HDvle : Hid (w9.heap.size ≤ wg.heap.size) := Lib.hid hgsz
  clear hgsz
  generalize wg.heap.size = dbv at *
  have v2 := HDv.out.box.cell (j := 2) (v := .bool ddv.sep) rfl
  have f2 := HDv.out.box.frozen 2
  have HX10 := Lib.hid (HX9.out.trans HYv.out)
  go_upto_region 10 with fail
  have hxv : Ext w9 (w10.setCell ⟨dbv, 2, none⟩ (.bool true)) := Ext.setCell_ HYv.out HDvle.out 2 (.bool true)
  have HVB : Hid (Box (w10.setCell ⟨dbv, 2, none⟩ (.bool true)) dbv 43 [.bool ddv.neg, .slice Xv ddv.int.length cxv, .bool true, .slice Yv ddv.frac.length cyv]) := Lib.hid (HDv.out.box.setCell 2 (.bool true))
  have HVD : Hid (DrR (w10.setCell ⟨dbv, 2, none⟩ (.bool true)) Xv Yv ddv) := Lib.hid ⟨ints_setCell HDv.out.box HDv.out.dr.int (by simp [isInt]) 2 (.bool true), ints_setCell HDv.out.box HDv.out.dr.frac (by simp [isInt]) 2 (.bool true)⟩
  have HX11 := Lib.hid (HX9W.out.trans hxv)
  have HW11 := Lib.hid (HW.out.ext (HYx.out.trans (HYy.out.trans (HX9.out.trans hxv))))
  have HE11 := Lib.hid hxv
  clear hxv v2 f2
  generalize w10.setCell ⟨dbv, 2, none⟩ (.bool true) = w11 at *
  have HRX := Lib.hid (HDX7.out.box.ext (HX9.out.trans HE11.out)).range
  have HRY := Lib.hid (HDy.out.box.ext (HX9.out.trans HE11.out)).range
  have HRZ := Lib.hid (HZB.out.ext HE11.out).range
  have HRV := Lib.hid HVB.out.range
  go_upto_region 11 with (first
    | (refine wpList_load_mid rfl 43 (.tmp 11) rfl dbx 0 rfl [.bool ddx.neg, .slice Xx ddx.int.length cxx, .bool ddx.sep, .slice Yx ddx.frac.length cyx] _ HRX.out Tryz.underlying43 rfl infoD14 ?_)
    | (refine wpList_load_mid rfl 43 (.tmp 12) rfl dby 0 rfl [.bool ddy.neg, .slice Xy ddy.int.length cxy, .bool ddy.sep, .slice Yy ddy.frac.length cyy] _ HRY.out Tryz.underlying43 rfl infoD14 ?_)
    | (refine wpList_load_mid rfl 43 (.tmp 13) rfl dbz 0 rfl [.bool (!ddx.neg), .slice Xx ddx.int.length cxx, .bool ddx.sep, .slice Yx ddx.frac.length cyx] _ HRZ.out Tryz.underlying43 rfl infoD14 ?_)
    | (refine wpList_load_mid rfl 43 (.tmp 14) rfl dbv 0 rfl [.bool ddv.neg, .slice Xv ddv.int.length cxv, .bool true, .slice Yv ddv.frac.length cyv] _ HRV.out Tryz.underlying43 rfl infoD14 ?_))
  change Code.wp _ _ _ _ (w11.alloc (.cells (fourV (fun i => drV (four Xx Xy Xx Xv i) (four cxx cxy cxx cxv i) (four Yx Yy Yx Yv i) (four cyx cyy cyx cyv i) (four ddx ddy ⟨!ddx.neg, ddx.int, ddx.sep, ddx.frac⟩ ⟨ddv.neg, ddv.int, true, ddv.frac⟩ i))).toArray 43))
  have hb12 := Box.new w11 43 (fourV (fun i => drV (four Xx Xy Xx Xv i) (four cxx cxy cxx cxv i) (four Yx Yy Yx Yv i) (four cyx cyy cyx cyv i) (four ddx ddy ⟨!ddx.neg, ddx.int, ddx.sep, ddx.frac⟩ ⟨ddv.neg, ddv.int, true, ddv.frac⟩ i)))
  have hx12 : Ext w11 (w11.alloc (.cells (fourV (fun i => drV (four Xx Xy Xx Xv i) (four cxx cxy cxx cxv i) (four Yx Yy Yx Yv i) (four cyx cyy cyx cyv i) (four ddx ddy ⟨!ddx.neg, ddx.int, ddx.sep, ddx.frac⟩ ⟨ddv.neg, ddv.int, true, ddv.frac⟩ i))).toArray 43)) := Ext.alloc_ (Ext.refl _) _
  have HRNG : Hid (∀ i, i < 4 → (w11.alloc (.cells (fourV (fun i => drV (four Xx Xy Xx Xv i) (four cxx cxy cxx cxv i) (four Yx Yy Yx Yv i) (four cyx cyy cyx cyv i) (four ddx ddy ⟨!ddx.neg, ddx.int, ddx.sep, ddx.frac⟩ ⟨ddv.neg, ddv.int, true, ddv.frac⟩ i))).toArray 43)).rangeAt w11.heap.size (i * 4) (drV (four Xx Xy Xx Xv i) (four cxx cxy cxx cxv i) (four Yx Yy Yx Yv i) (four cyx cyy cyx cyv i) (four ddx ddy ⟨!ddx.neg, ddx.int, ddx.sep, ddx.frac⟩ ⟨ddv.neg, ddv.int, true, ddv.frac⟩ i))) := Lib.hid fun i hi => four_range (fun _ => rfl) hb12.range hi
  have HDR : Hid (∀ i, i < 4 → DrR w11 (four Xx Xy Xx Xv i) (four Yx Yy Yx Yv i) (four ddx ddy ⟨!ddx.neg, ddx.int, ddx.sep, ddx.frac⟩ ⟨ddv.neg, ddv.int, true, ddv.frac⟩ i)) := Lib.hid fun i hi => by
    have hx := (HDX7.out.ext (HX9.out.trans HE11.out)).dr
    have hy := (HDy.out.ext (HX9.out.trans HE11.out)).dr
    have : i = 0 ∨ i = 1 ∨ i = 2 ∨ i = 3 := by omega
    rcases this with rfl | rfl | rfl | rfl
    · exact hx
    · exact hy
    · exact ⟨hx.int, hx.frac⟩
    · exact ⟨HVD.out.int, HVD.out.frac⟩
  have HOK : Hid (∀ i, i < 4 → DrOk (four ddx ddy ⟨!ddx.neg, ddx.int, ddx.sep, ddx.frac⟩ ⟨ddv.neg, ddv.int, true, ddv.frac⟩ i) ∧ (four ddx ddy ⟨!ddx.neg, ddx.int, ddx.sep, ddx.frac⟩ ⟨ddv.neg, ddv.int, true, ddv.frac⟩ i).int.length ≤ 5 ∧ (four ddx ddy ⟨!ddx.neg, ddx.int, ddx.sep, ddx.frac⟩ ⟨ddv.neg, ddv.int, true, ddv.frac⟩ i).frac.length ≤ 4) := Lib.hid fun i hi => by
    have : i = 0 ∨ i = 1 ∨ i = 2 ∨ i = 3 := by omega
    rcases this with rfl | rfl | rfl | rfl
    · exact ⟨HOKx.out, hdix, hdfx⟩
    · exact ⟨HOKy.out, hdiy, hdfy⟩
    · exact ⟨flip_ok HOKx.out, hdix, hdfx⟩
    · exact ⟨sep_ok HOKv.out, hdiv, Nat.le_trans hdfv (by decide)⟩
  have HW12 := Lib.hid (HW11.out.ext hx12)
  have HX12 := Lib.hid (HX11.out.trans hx12)
  have HXE := Lib.hid hx12
  clear hb12 hx12 HRX HRY HRZ HRV HVB HVD HE11 HX11 HW11 HX10 HX9W HX9 HZB HDX7 HDx HDy HDv HYx HYy HYv HRA HRB HX5 HW HXB HXS HBA HBB HRG hdix hdiy hdiv hdfx hdfy hdfv HOKx HOKy HOKv HGDx HGDy HGDv HBG HX1 HRX7 HDvle
  generalize w11.alloc (.cells (fourV (fun i => drV (four Xx Xy Xx Xv i) (four cxx cxy cxx cxv i) (four Yx Yy Yx Yv i) (four cyx cyy cyx cyv i) (four ddx ddy ⟨!ddx.neg, ddx.int, ddx.sep, ddx.frac⟩ ⟨ddv.neg, ddv.int, true, ddv.frac⟩ i))).toArray 43) = w12 at *
  generalize w11.heap.size = sb at *
  generalize four ddx ddy ⟨!ddx.neg, ddx.int, ddx.sep, ddx.frac⟩ ⟨ddv.neg, ddv.int, true, ddv.frac⟩ = DS at *
  generalize four Xx Xy Xx Xv = XS at *
  generalize four Yx Yy Yx Yv = YS at *
  generalize four cxx cxy cxx cxv = CX at *
  generalize four cyx cyy cyx cyv = CY at *
  go_wp2
  go_loopw [16] (fun i wr => ∃ m : Nat, m ≤ 4 ∧ i = .int .i64 m ∧ Ext w12 wr) (fun i _ => 4 - (intOf i).toNat)
  case atStart => exact ⟨0, Nat.zero_le _, rfl, Ext.refl _⟩
  case round =>
    obtain ⟨m, hm, rfl, hx⟩ := hrel
    by_cases hlt : m < 4
    · have i1 : (m : Int) < 4 := by omega
      have i2 : (0 : Int) ≤ (m : Int) := by omega
      have HXO := Lib.hid hx
      clear hx
      go_wp2
      go_loopw [17] (fun j wv => ∃ q : Nat, q ≤ 4 ∧ j = .int .i64 q ∧ Ext w12 wv) (fun j _ => 4 - (intOf j).toNat)
      case atStart => exact ⟨0, Nat.zero_le _, rfl, HXO.out⟩
      case round =>
        rename_i wv
        obtain ⟨q, hq, rfl, hxv⟩ := hrel
        by_cases hlq : q < 4
        · have j1 : (q : Int) < 4 := by omega
          have j2 : (0 : Int) ≤ (q : Int) := by omega
          have HXV := Lib.hid hxv
          clear hxv
          have HEQ : Hid ((textI (itemsF (locOf r p) (DS m)) == textI (itemsF (locOf r p) (DS q))) = decide (DS m = DS q)) := Lib.hid (by
            rw [Bool.eq_iff_iff, beq_iff_eq, decide_eq_true_iff]
            exact ⟨fun ht => text_inj HK.out.both (HOK.out m hlt).1 (HOK.out q hlq).1 ht, fun hd => by rw [hd]⟩)
          have hom := HOK.out m hlt
          have hoq := HOK.out q hlq
          have HIM : Hid (∀ W, Ext w12 W → Calls Tryz.prog 40 #[.pointer (some ⟨g, 0, none⟩), .agg ([.bool (DS m).neg, .slice (XS m) (DS m).int.length (CX m), .bool (DS m).sep, .slice (YS m) (DS m).frac.length (CY m)] : List Value).toArray] W fun e w' => ∃ E cE, e = .returned (.slice E (itemsF (locOf r p) (DS m)).length cE) ∧ Row w' E (itsV (itemsF (locOf r p) (DS m))) ∧ Ext W w') := Lib.hid fun W hW => (HW12.out.ext hW).itm HK.out ((HDR.out m hlt).ext (HXE.out.trans hW)) (by omega) (by omega)
          have HIQ : Hid (∀ W, Ext w12 W → Calls Tryz.prog 40 #[.pointer (some ⟨g, 0, none⟩), .agg ([.bool (DS q).neg, .slice (XS q) (DS q).int.length (CX q), .bool (DS q).sep, .slice (YS q) (DS q).frac.length (CY q)] : List Value).toArray] W fun e w' => ∃ E cE, e = .returned (.slice E (itemsF (locOf r p) (DS q)).length cE) ∧ Row w' E (itsV (itemsF (locOf r p) (DS q))) ∧ Ext W w') := Lib.hid fun W hW => (HW12.out.ext hW).itm HK.out ((HDR.out q hlq).ext (HXE.out.trans hW)) (by omega) (by omega)
          have hlm := items_le HK.out.both (d := DS m) (by omega) (by omega)
          have hlqq := items_le HK.out.both (d := DS q) (by omega) (by omega)
          have HTM : Hid (∀ W E cE, Row W E (itsV (itemsF (locOf r p) (DS m))) → Calls Tryz.prog 39 #[.slice E (itemsF (locOf r p) (DS m)).length cE] W fun e w' => e = .returned (.string ⟨(textI (itemsF (locOf r p) (DS m))).toArray⟩) ∧ Ext W w') := Lib.hid fun W E cE hr => item_text E _ cE _ W hr rfl (by omega) hlm.2.1
          have HTQ : Hid (∀ W E cE, Row W E (itsV (itemsF (locOf r p) (DS q))) → Calls Tryz.prog 39 #[.slice E (itemsF (locOf r p) (DS q)).length cE] W fun e w' => e = .returned (.string ⟨(textI (itemsF (locOf r p) (DS q))).toArray⟩) ∧ Ext W w') := Lib.hid fun W E cE hr => item_text E _ cE _ W hr rfl (by omega) hlqq.2.1
          have HSM : Hid (∀ W, Ext w12 W → Calls Tryz.prog 29 #[.agg ([.bool (DS m).neg, .slice (XS m) (DS m).int.length (CX m), .bool (DS m).sep, .slice (YS m) (DS m).frac.length (CY m)] : List Value).toArray, .agg ([.bool (DS q).neg, .slice (XS q) (DS q).int.length (CX q), .bool (DS q).sep, .slice (YS q) (DS q).frac.length (CY q)] : List Value).toArray] W fun e w' => e = .returned (.bool (decide (DS m = DS q))) ∧ Ext W w') := Lib.hid fun W hW =>
            ref14_same (XS m) (YS m) (XS q) (YS q) (CX m) (CY m) (CX q) (CY q) (DS m) (DS q) W ((HDR.out m hlt).ext (HXE.out.trans hW)) ((HDR.out q hlq).ext (HXE.out.trans hW)) (by unfold maxLen; omega) (by unfold maxLen; omega) (by unfold maxLen; omega) (by unfold maxLen; omega)
          have HRM : Hid (∀ W, Ext w12 W → W.rangeAt sb (m * 4) [.bool (DS m).neg, .slice (XS m) (DS m).int.length (CX m), .bool (DS m).sep, .slice (YS m) (DS m).frac.length (CY m)]) := Lib.hid fun W hW => Ext.range_ hW (HRNG.out m hlt)
          have HRQ : Hid (∀ W, Ext w12 W → W.rangeAt sb (q * 4) [.bool (DS q).neg, .slice (XS q) (DS q).int.length (CX q), .bool (DS q).sep, .slice (YS q) (DS q).frac.length (CY q)]) := Lib.hid fun W hW => Ext.range_ hW (HRNG.out q hlq)
          clear hom hoq hlm hlqq
          generalize textI (itemsF (locOf r p) (DS m)) = tm at *
          generalize textI (itemsF (locOf r p) (DS q)) = tq at *
          generalize itemsF (locOf r p) (DS m) = Lm at *
          generalize itemsF (locOf r p) (DS q) = Lq at *
          generalize decide (DS m = DS q) = bb at *
          have hrm := HRM.out _ HXV.out
          have HRM0 := Lib.hid hrm
          clear hrm
          go_upto_region 18 with (first
            | (refine wpList_load_mid rfl 43 (.tmp 56) rfl sb (m * 4) rfl [.bool (DS m).neg, .slice (XS m) (DS m).int.length (CX m), .bool (DS m).sep, .slice (YS m) (DS m).frac.length (CY m)] _ HRM0.out Tryz.underlying43 rfl infoD14 ?_)
            | (go_at_call 40; with_reducible refine (HIM.out _ HXV.out).mono ?_; rintro e wp ⟨E1, cE1, rfl, hr1, hxp⟩; have HT1 := Lib.hid (HTM.out _ _ cE1 hr1))
            | (go_at_call 39; with_reducible refine HT1.out.mono ?_; rintro e wq ⟨rfl, hxq⟩))
          have HXQ := Lib.hid (HXV.out.trans (hxp.trans hxq))
          have HRQ0 := Lib.hid (HRQ.out _ HXQ.out)
          clear hr1 hxp hxq HT1 HRM0
          go_upto_region 19 with (first
            | (refine wpList_load_mid rfl 43 (.tmp 63) rfl sb (q * 4) rfl [.bool (DS q).neg, .slice (XS q) (DS q).int.length (CX q), .bool (DS q).sep, .slice (YS q) (DS q).frac.length (CY q)] _ HRQ0.out Tryz.underlying43 rfl infoD14 ?_)
            | (go_at_call 40; with_reducible refine (HIQ.out _ HXQ.out).mono ?_; rintro e wp ⟨E1, cE1, rfl, hr1, hxp⟩; have HT1 := Lib.hid (HTQ.out _ _ cE1 hr1))
            | (go_at_call 39; with_reducible refine HT1.out.mono ?_; rintro e wq ⟨rfl, hxq⟩))
          have HXR := Lib.hid (HXQ.out.trans (hxp.trans hxq))
          have hrm := HRM.out _ HXR.out
          have hrq := HRQ.out _ HXR.out
          clear hr1 hxp hxq HT1 HRQ0
          have hbb := HEQ.out
          cases bb
          · skip
            refine wp_region_noPanic ?_
            refine wp_region_held_drew (S := fun W => Ext w12 W ∧ W.rangeAt sb (m * 4) [.bool (DS m).neg, .slice (XS m) (DS m).int.length (CX m), .bool (DS m).sep, .slice (YS m) (DS m).frac.length (CY m)] ∧ W.rangeAt sb (q * 4) [.bool (DS q).neg, .slice (XS q) (DS q).int.length (CX q), .bool (DS q).sep, .slice (YS q) (DS q).frac.length (CY q)]) (by kernel_rfl) ?_ (fun hHeld => ?_)
            · exact ⟨HXR.out.trans (Ext.drew_ (Ext.refl _)), HRM.out _ (HXR.out.trans (Ext.drew_ (Ext.refl _))), HRQ.out _ (HXR.out.trans (Ext.drew_ (Ext.refl _)))⟩
            refine take_ 0 (v := ?_) rfl (by kernel_rfl) (by kernel_rfl) (by kernel_rfl) (fun _ _ _ h => h) hHeld (by rfl) ?_ ?_
            rotate_left 1
            · (intro w hSw; (try dsimp only at hSw); go_simp; all_goals with_reducible rfl)
            try simp only [Act.put, List.setIfInBounds_toArray, List.set_cons_zero, List.set_cons_succ]
            refine take_ 1 (v := ?_) rfl (by kernel_rfl) (by kernel_rfl) (by kernel_rfl) (fun _ _ _ h => h) hHeld (by rfl) ?_ ?_
            rotate_left 1
            · (intro w hSw; (try dsimp only at hSw); go_simp; all_goals with_reducible rfl)
            try simp only [Act.put, List.setIfInBounds_toArray, List.set_cons_zero, List.set_cons_succ]
            refine take_ 2 (v := ?_) rfl (by kernel_rfl) (by kernel_rfl) (by kernel_rfl) (fun _ _ _ h => h) hHeld (by rfl) ?_ ?_
            rotate_left 1
            · (intro w hSw; (try dsimp only at hSw); go_simp; all_goals with_reducible rfl)
            try simp only [Act.put, List.setIfInBounds_toArray, List.set_cons_zero, List.set_cons_succ]
            refine take_ 3 (v := ?_) rfl (by kernel_rfl) (by kernel_rfl) (by kernel_rfl) (fun _ _ _ h => h) hHeld (by rfl) ?_ ?_
            rotate_left 1
            · (intro w hSw; (try dsimp only at hSw); go_simp; all_goals with_reducible rfl)
            try simp only [Act.put, List.setIfInBounds_toArray, List.set_cons_zero, List.set_cons_succ]
            refine take_ 4 (v := ?_) rfl (by kernel_rfl) (by kernel_rfl) (by kernel_rfl) (fun _ _ _ h => h) hHeld (by rfl) ?_ ?_
            rotate_left 1
            · (intro w hSw; (try dsimp only at hSw); go_simp; all_goals with_reducible rfl)
            try simp only [Act.put, List.setIfInBounds_toArray, List.set_cons_zero, List.set_cons_succ]
            refine take_ 5 (v := ?_) rfl (by kernel_rfl) (by kernel_rfl) (by kernel_rfl) (fun _ _ _ h => h) hHeld (by rfl) ?_ ?_
            rotate_left 1
            · (intro w hSw; (try dsimp only at hSw); go_simp; all_goals with_reducible rfl)
            try simp only [Act.put, List.setIfInBounds_toArray, List.set_cons_zero, List.set_cons_succ]
            refine takeRow_ (cs := [.bool (DS m).neg, .slice (XS m) (DS m).int.length (CX m), .bool (DS m).sep, .slice (YS m) (DS m).frac.length (CY m)]) 6 rfl (by kernel_rfl) (by kernel_rfl) (by kernel_rfl) (fun _ _ _ h => h) hHeld (by rfl) 43 ((.tmp 72)) rfl sb (m * 4) rfl _ (fun _ h => h.2.1) Tryz.underlying43 rfl infoD14 ?_
            try simp only [Act.put, List.setIfInBounds_toArray, List.set_cons_zero, List.set_cons_succ]
            refine take_ 7 (v := ?_) rfl (by kernel_rfl) (by kernel_rfl) (by kernel_rfl) (fun _ _ _ h => h) hHeld (by rfl) ?_ ?_
            rotate_left 1
            · (intro w hSw; (try dsimp only at hSw); go_simp; all_goals with_reducible rfl)
            try simp only [Act.put, List.setIfInBounds_toArray, List.set_cons_zero, List.set_cons_succ]
            refine take_ 8 (v := ?_) rfl (by kernel_rfl) (by kernel_rfl) (by kernel_rfl) (fun _ _ _ h => h) hHeld (by rfl) ?_ ?_
            rotate_left 1
            · (intro w hSw; (try dsimp only at hSw); go_simp; all_goals with_reducible rfl)
            try simp only [Act.put, List.setIfInBounds_toArray, List.set_cons_zero, List.set_cons_succ]
            refine take_ 9 (v := ?_) rfl (by kernel_rfl) (by kernel_rfl) (by kernel_rfl) (fun _ _ _ h => h) hHeld (by rfl) ?_ ?_
            rotate_left 1
            · (intro w hSw; (try dsimp only at hSw); go_simp; all_goals with_reducible rfl)
            try simp only [Act.put, List.setIfInBounds_toArray, List.set_cons_zero, List.set_cons_succ]
            refine takeRow_ (cs := [.bool (DS q).neg, .slice (XS q) (DS q).int.length (CX q), .bool (DS q).sep, .slice (YS q) (DS q).frac.length (CY q)]) 10 rfl (by kernel_rfl) (by kernel_rfl) (by kernel_rfl) (fun _ _ _ h => h) hHeld (by rfl) 43 ((.tmp 76)) rfl sb (q * 4) rfl _ (fun _ h => h.2.2) Tryz.underlying43 rfl infoD14 ?_
            try simp only [Act.put, List.setIfInBounds_toArray, List.set_cons_zero, List.set_cons_succ]
            refine only_ 11 rfl (by kernel_rfl) (fun K1 hK1 => ?_)
            go_simp
            go_at_call 29
            refine (HSM.out _ hHeld.1).mono ?_
            rintro e w8 ⟨rfl, hx8⟩
            refine hK1.out _ _ (⟨hHeld.1.trans hx8, Ext.range_ hx8 hHeld.2.1, Ext.range_ hx8 hHeld.2.2⟩) (fun hHeld => ?_)
            clear hK1
            try simp only [Act.put, List.setIfInBounds_toArray, List.set_cons_zero, List.set_cons_succ]
            refine take_ 12 (v := ?_) rfl (by kernel_rfl) (by kernel_rfl) (by kernel_rfl) (fun _ _ _ h => h) hHeld (by rfl) ?_ ?_
            rotate_left 1
            · (intro w hSw; (try dsimp only at hSw); go_simp; all_goals with_reducible rfl)
            try simp only [Act.put, List.setIfInBounds_toArray, List.set_cons_zero, List.set_cons_succ]
            refine wpAnyH_done (by kernel_rfl) ?_ _
            refine NoPanic.normal ?_
            have HXZ := Lib.hid hHeld.1
            clear hHeld
            go_wp2
            go_roundw
            case rel => exact ⟨q + 1, by omega, by go_num, HXZ.out⟩
            case measure => simp [intOf]; omega
          · skip
            refine wp_region_noPanic ?_
            refine wp_region_held_drew (S := fun W => Ext w12 W ∧ W.rangeAt sb (m * 4) [.bool (DS m).neg, .slice (XS m) (DS m).int.length (CX m), .bool (DS m).sep, .slice (YS m) (DS m).frac.length (CY m)] ∧ W.rangeAt sb (q * 4) [.bool (DS q).neg, .slice (XS q) (DS q).int.length (CX q), .bool (DS q).sep, .slice (YS q) (DS q).frac.length (CY q)]) (by kernel_rfl) ?_ (fun hHeld => ?_)
            · exact ⟨HXR.out.trans (Ext.drew_ (Ext.refl _)), HRM.out _ (HXR.out.trans (Ext.drew_ (Ext.refl _))), HRQ.out _ (HXR.out.trans (Ext.drew_ (Ext.refl _)))⟩
            refine take_ 0 (v := ?_) rfl (by kernel_rfl) (by kernel_rfl) (by kernel_rfl) (fun _ _ _ h => h) hHeld (by rfl) ?_ ?_
            rotate_left 1
            · (intro w hSw; (try dsimp only at hSw); go_simp; all_goals with_reducible rfl)
            try simp only [Act.put, List.setIfInBounds_toArray, List.set_cons_zero, List.set_cons_succ]
            refine take_ 1 (v := ?_) rfl (by kernel_rfl) (by kernel_rfl) (by kernel_rfl) (fun _ _ _ h => h) hHeld (by rfl) ?_ ?_
            rotate_left 1
            · (intro w hSw; (try dsimp only at hSw); go_simp; all_goals with_reducible rfl)
            try simp only [Act.put, List.setIfInBounds_toArray, List.set_cons_zero, List.set_cons_succ]
            refine take_ 2 (v := ?_) rfl (by kernel_rfl) (by kernel_rfl) (by kernel_rfl) (fun _ _ _ h => h) hHeld (by rfl) ?_ ?_
            rotate_left 1
            · (intro w hSw; (try dsimp only at hSw); go_simp; all_goals with_reducible rfl)
            try simp only [Act.put, List.setIfInBounds_toArray, List.set_cons_zero, List.set_cons_succ]
            refine take_ 3 (v := ?_) rfl (by kernel_rfl) (by kernel_rfl) (by kernel_rfl) (fun _ _ _ h => h) hHeld (by rfl) ?_ ?_
            rotate_left 1
            · (intro w hSw; (try dsimp only at hSw); go_simp; all_goals with_reducible rfl)
            try simp only [Act.put, List.setIfInBounds_toArray, List.set_cons_zero, List.set_cons_succ]
            refine take_ 4 (v := ?_) rfl (by kernel_rfl) (by kernel_rfl) (by kernel_rfl) (fun _ _ _ h => h) hHeld (by rfl) ?_ ?_
            rotate_left 1
            · (intro w hSw; (try dsimp only at hSw); go_simp; all_goals with_reducible rfl)
            try simp only [Act.put, List.setIfInBounds_toArray, List.set_cons_zero, List.set_cons_succ]
            refine take_ 5 (v := ?_) rfl (by kernel_rfl) (by kernel_rfl) (by kernel_rfl) (fun _ _ _ h => h) hHeld (by rfl) ?_ ?_
            rotate_left 1
            · (intro w hSw; (try dsimp only at hSw); go_simp; all_goals with_reducible rfl)
            try simp only [Act.put, List.setIfInBounds_toArray, List.set_cons_zero, List.set_cons_succ]
            refine takeRow_ (cs := [.bool (DS m).neg, .slice (XS m) (DS m).int.length (CX m), .bool (DS m).sep, .slice (YS m) (DS m).frac.length (CY m)]) 6 rfl (by kernel_rfl) (by kernel_rfl) (by kernel_rfl) (fun _ _ _ h => h) hHeld (by rfl) 43 ((.tmp 72)) rfl sb (m * 4) rfl _ (fun _ h => h.2.1) Tryz.underlying43 rfl infoD14 ?_
            try simp only [Act.put, List.setIfInBounds_toArray, List.set_cons_zero, List.set_cons_succ]
            refine take_ 7 (v := ?_) rfl (by kernel_rfl) (by kernel_rfl) (by kernel_rfl) (fun _ _ _ h => h) hHeld (by rfl) ?_ ?_
            rotate_left 1
            · (intro w hSw; (try dsimp only at hSw); go_simp; all_goals with_reducible rfl)
            try simp only [Act.put, List.setIfInBounds_toArray, List.set_cons_zero, List.set_cons_succ]
            refine take_ 8 (v := ?_) rfl (by kernel_rfl) (by kernel_rfl) (by kernel_rfl) (fun _ _ _ h => h) hHeld (by rfl) ?_ ?_
            rotate_left 1
            · (intro w hSw; (try dsimp only at hSw); go_simp; all_goals with_reducible rfl)
            try simp only [Act.put, List.setIfInBounds_toArray, List.set_cons_zero, List.set_cons_succ]
            refine take_ 9 (v := ?_) rfl (by kernel_rfl) (by kernel_rfl) (by kernel_rfl) (fun _ _ _ h => h) hHeld (by rfl) ?_ ?_
            rotate_left 1
            · (intro w hSw; (try dsimp only at hSw); go_simp; all_goals with_reducible rfl)
            try simp only [Act.put, List.setIfInBounds_toArray, List.set_cons_zero, List.set_cons_succ]
            refine takeRow_ (cs := [.bool (DS q).neg, .slice (XS q) (DS q).int.length (CX q), .bool (DS q).sep, .slice (YS q) (DS q).frac.length (CY q)]) 10 rfl (by kernel_rfl) (by kernel_rfl) (by kernel_rfl) (fun _ _ _ h => h) hHeld (by rfl) 43 ((.tmp 76)) rfl sb (q * 4) rfl _ (fun _ h => h.2.2) Tryz.underlying43 rfl infoD14 ?_
            try simp only [Act.put, List.setIfInBounds_toArray, List.set_cons_zero, List.set_cons_succ]
            refine only_ 11 rfl (by kernel_rfl) (fun K1 hK1 => ?_)
            go_simp
            go_at_call 29
            refine (HSM.out _ hHeld.1).mono ?_
            rintro e w8 ⟨rfl, hx8⟩
            refine hK1.out _ _ (⟨hHeld.1.trans hx8, Ext.range_ hx8 hHeld.2.1, Ext.range_ hx8 hHeld.2.2⟩) (fun hHeld => ?_)
            clear hK1
            try simp only [Act.put, List.setIfInBounds_toArray, List.set_cons_zero, List.set_cons_succ]
            refine take_ 12 (v := ?_) rfl (by kernel_rfl) (by kernel_rfl) (by kernel_rfl) (fun _ _ _ h => h) hHeld (by rfl) ?_ ?_
            rotate_left 1
            · (intro w hSw; (try dsimp only at hSw); go_simp; all_goals with_reducible rfl)
            try simp only [Act.put, List.setIfInBounds_toArray, List.set_cons_zero, List.set_cons_succ]
            refine wpAnyH_done (by kernel_rfl) ?_ _
            refine NoPanic.normal ?_
            have HXZ := Lib.hid hHeld.1
            clear hHeld
            go_wp2
            go_roundw
            case rel => exact ⟨q + 1, by omega, by go_num, HXZ.out⟩
            case measure => simp [intOf]; omega
        · have e : q = 4 := by omega
          subst e
          have HXV := Lib.hid hxv
          clear hxv
          go_wp2
          go_roundw
          case rel => exact ⟨m + 1, by omega, by go_num, HXV.out⟩
          case measure => simp [intOf]; omega
    · have e : m = 4 := by omega
      subst e
      have HXL := Lib.hid (HX12.out.trans hx)
      clear hx
      go_wp2_with (go_at_call 31; with_reducible refine (HLV.out _ HXL.out).mono ?_; rintro e w16 ⟨rfl, hx16⟩)
      go_ret
      exact ⟨rfl, HXL.out.trans hx16⟩
end Go.Proofs.YtaobgbhgckndkaaGreatDoor.Loc
