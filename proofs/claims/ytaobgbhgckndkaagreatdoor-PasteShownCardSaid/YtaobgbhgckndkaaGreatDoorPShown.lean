/- The law PasteShown: what a locale shows of a draft is read as its sign and its atoms. (Printed by wip/gen/law18.py.) -/
import Derived.Test.YtaobgbhgckndkaaGreatDoorJPaW
import Derived.Test.YtaobgbhgckndkaaGreatDoorJStW
namespace Go.Proofs.YtaobgbhgckndkaaGreatDoor.Loc
open Go.RowKit Utf All Small Strs Build EncC Pat Cls Dec Go.Proofs.YtaobgbhgckndkaaGreatDoor.Sys
set_option linter.unusedVariables false
set_option linter.unusedSimpArgs false
set_option maxHeartbeats 16000000 in
set_option maxRecDepth 1000000 in
theorem law_PasteShown (v0 v1 v2 v3 v4 v5 n : Int) (A0 B0 : Option Addr) (c0 e0 : Nat) (d0 : Dr) (w : World) (h0 : i64 v0) (h1 : i64 v1) (h2 : i64 v2) (h3 : i64 v3) (h4 : i64 v4) (h5 : i64 v5) (hn : i64 n) (hd : DrR w A0 B0 d0) (hi : DrI d0) (hT : Tabs w) :
    Calls Tryz.prog 4 #[.agg ([.int .i64 v0, .int .i64 v1, .int .i64 v2, .int .i64 v3, .int .i64 v4, .int .i64 v5] : List Value).toArray, .int .i64 n, .agg ([.bool d0.neg, .slice A0 d0.int.length c0, .bool d0.sep, .slice B0 d0.frac.length e0] : List Value).toArray] w fun e w' => e = .returned (.bool true) ∧ Below w.heap.size w w' := by
  obtain ⟨r, p, hK, hBG⟩ := begin18_ v0 v1 v2 v3 v4 v5 n h0 h1 h2 h3 h4 h5 hn
  obtain ⟨ddx, hdokx, hdix, hdfx, hGdx, hEx⟩ : ∃ dd : Dr, DrOk dd ∧ dd.int.length ≤ 10 ∧ dd.frac.length ≤ 5 ∧ (∀ W, Ext w W → Calls Tryz.prog 20 #[.agg ([.bool d0.neg, .slice A0 d0.int.length c0, .bool d0.sep, .slice B0 d0.frac.length e0] : List Value).toArray, .int .i64 10, .int .i64 5] W fun e w' => ∃ X Y cx cy, e = .returned (.agg ([.bool dd.neg, .slice X dd.int.length cx, .bool dd.sep, .slice Y dd.frac.length cy] : List Value).toArray) ∧ DrR w' X Y dd ∧ Okc X cx ∧ Okc Y cy ∧ Ext W w') ∧ dd = goodD d0 10 5 :=
    ⟨goodD d0 10 5, good_ok _ _ _, good_intl d0 10 5, good_fracl d0 10 5, fun W hW => ref14_good A0 B0 c0 e0 d0 10 5 W (hd.ext hW) hi (by decide) (by decide), rfl⟩
  have HGDx := Lib.hid hGdx
  have HOKx := Lib.hid hdokx
  clear hGdx hdokx
  have HK := Lib.hid hK.knd
  have HKO := Lib.hid hK.outs
  have HBG := Lib.hid hBG
  have HTW := Lib.hid hT
  have HLV : Hid (∀ W, Ext w W → Calls Tryz.prog 19 #[] W fun e w' => e = .returned (.bool true) ∧ Ext W w') := Lib.hid fun W hW => lives18 W (HTW.out.ext hW)
  obtain ⟨b1, b2, hx1⟩ := boxes2 w 23 43 [.int .i64 v0, .int .i64 v1, .int .i64 v2, .int .i64 v3, .int .i64 v4, .int .i64 v5] [.bool d0.neg, .slice A0 d0.int.length c0, .bool d0.sep, .slice B0 d0.frac.length e0]
  have HRG := Lib.hid b1.range
  have HBA := Lib.hid b2
  have HX1 := Lib.hid hx1
  clear hK hBG hd hi hT b1 b2 hx1 h0 h1 h2 h3 h4 h5 hn hEx
  go_enter Tryz.func4, Tryz.ntmps4
  go_upto_region 1 with fail
  change Code.wp _ _ _ _ ((w.alloc (.cells ([.int .i64 v0, .int .i64 v1, .int .i64 v2, .int .i64 v3, .int .i64 v4, .int .i64 v5] : List Value).toArray 23)).alloc (.cells ([.bool d0.neg, .slice A0 d0.int.length c0, .bool d0.sep, .slice B0 d0.frac.length e0] : List Value).toArray 43))
  generalize (w.alloc (.cells ([.int .i64 v0, .int .i64 v1, .int .i64 v2, .int .i64 v3, .int .i64 v4, .int .i64 v5] : List Value).toArray 23)).alloc (.cells ([.bool d0.neg, .slice A0 d0.int.length c0, .bool d0.sep, .slice B0 d0.frac.length e0] : List Value).toArray 43) = w1 at *
  go_upto_region 2 with (first
    | (refine wpList_load_mid rfl 23 (.tmp 3) rfl w.heap.size 0 rfl [.int .i64 v0, .int .i64 v1, .int .i64 v2, .int .i64 v3, .int .i64 v4, .int .i64 v5] _ HRG.out Tryz.underlying23 rfl infoG ?_)
    | (go_at_call 14; with_reducible refine (HBG.out _ (HTW.out.ext HX1.out)).mono ?_; rintro e wb ⟨g, A, B, C, D, c, d, a, b, rfl, hlw, hxb⟩)
    | (refine wpList_store_fresh rfl 31 (.tmp 8) (.tmp 18) rfl ([.string ⟨r.name.toArray⟩, .string ⟨r.pattern.toArray⟩, .string ⟨r.system.toArray⟩, .string ⟨r.decimal.toArray⟩, .string ⟨r.group.toArray⟩, .string ⟨r.minus.toArray⟩, .string ⟨r.percent.toArray⟩, .string ⟨r.currency.toArray⟩, .slice A p.pre.length c, .slice B p.suf.length d, .slice C p.npre.length a, .slice D p.nsuf.length b, .int .i64 p.num.prim, .int .i64 p.num.sec, .int .i64 p.num.minInt, .int .i64 p.num.minFrac, .int .i64 p.num.maxFrac] : List Value).toArray 31 _ rfl rfl infoRL rfl (refL_one A B C D c d a b r p) ?_))
  have hxc : Ext wb (wb.alloc (.cells ([.string ⟨r.name.toArray⟩, .string ⟨r.pattern.toArray⟩, .string ⟨r.system.toArray⟩, .string ⟨r.decimal.toArray⟩, .string ⟨r.group.toArray⟩, .string ⟨r.minus.toArray⟩, .string ⟨r.percent.toArray⟩, .string ⟨r.currency.toArray⟩, .slice A p.pre.length c, .slice B p.suf.length d, .slice C p.npre.length a, .slice D p.nsuf.length b, .int .i64 p.num.prim, .int .i64 p.num.sec, .int .i64 p.num.minInt, .int .i64 p.num.minFrac, .int .i64 p.num.maxFrac] : List Value).toArray 31)) := Ext.alloc_ (Ext.refl _) _
  have HW := Lib.hid hlw
  have HXB := Lib.hid (HX1.out.trans (hxb.trans hxc))
  have HXS := Lib.hid (hxb.trans hxc)
  clear hlw hxb hxc
  generalize wb.alloc (.cells ([.string ⟨r.name.toArray⟩, .string ⟨r.pattern.toArray⟩, .string ⟨r.system.toArray⟩, .string ⟨r.decimal.toArray⟩, .string ⟨r.group.toArray⟩, .string ⟨r.minus.toArray⟩, .string ⟨r.percent.toArray⟩, .string ⟨r.currency.toArray⟩, .slice A p.pre.length c, .slice B p.suf.length d, .slice C p.npre.length a, .slice D p.nsuf.length b, .int .i64 p.num.prim, .int .i64 p.num.sec, .int .i64 p.num.minInt, .int .i64 p.num.minFrac, .int .i64 p.num.maxFrac] : List Value).toArray 31) = w3 at *
  generalize wb.heap.size = lb at *
  have HRA := Lib.hid (HBA.out.ext HXS.out).range
  go_upto_region 5 with (first
    | (refine wpList_load_mid rfl 43 (.tmp 5) rfl (w.heap.size + 1) 0 rfl [.bool d0.neg, .slice A0 d0.int.length c0, .bool d0.sep, .slice B0 d0.frac.length e0] _ HRA.out Tryz.underlying43 rfl infoD14 ?_)
    | (go_at_call 20; with_reducible refine (HGDx.out _ HXB.out).mono ?_; rintro e wg ⟨Xx, Yx, cxx, cyx, rfl, hdr, oX, oY, hxg⟩)
    | (refine wpList_store_fresh rfl 43 (.tmp 9) (.tmp 22) rfl ([.bool ddx.neg, .slice Xx ddx.int.length cxx, .bool ddx.sep, .slice Yx ddx.frac.length cyx] : List Value).toArray 43 _ rfl rfl infoD14 rfl (by simp [Value.oneCell']) ?_))
  have HDx := Lib.hid (Dw.new (T := 43) hdr oX oY)
  have HYx := Lib.hid (hxg.trans (Ext.alloc_ (Ext.refl wg) (.cells ([.bool ddx.neg, .slice Xx ddx.int.length cxx, .bool ddx.sep, .slice Yx ddx.frac.length cyx] : List Value).toArray 43)))
  clear hdr oX oY hxg
  change Hid (Dw (wg.alloc (.cells ([.bool ddx.neg, .slice Xx ddx.int.length cxx, .bool ddx.sep, .slice Yx ddx.frac.length cyx] : List Value).toArray 43)) wg.heap.size 43 Xx cxx Yx cyx ddx) at HDx
  generalize wg.alloc (.cells ([.bool ddx.neg, .slice Xx ddx.int.length cxx, .bool ddx.sep, .slice Yx ddx.frac.length cyx] : List Value).toArray 43) = w5 at *
  generalize wg.heap.size = dbx at *
  have HX5 := Lib.hid (HXB.out.trans HYx.out)
  have HW5 := Lib.hid (HW.out.ext HYx.out)
  have HAT : Hid (∀ W, Ext w5 W → Calls Tryz.prog 21 #[.agg ([.bool ddx.neg, .slice Xx ddx.int.length cxx, .bool ddx.sep, .slice Yx ddx.frac.length cyx] : List Value).toArray] W fun e w' => ∃ F c', e = .returned (.slice F (atomsF ddx).length c') ∧ Row w' F ((atomsF ddx).map (Value.int .i64)) ∧ Ext W w') := Lib.hid fun W hW =>
    (ref14_atoms Xx Yx cxx cyx ddx W (HDx.out.dr.ext hW) HDx.out.ox HDx.out.oy (by omega) (by omega)).mono fun e w' ⟨F, c', h1, h2⟩ => ⟨F, c', h1, h2.row, h2.ext⟩
  have HTA : Hid (∀ W, Ext w5 W → Calls Tryz.prog 23 #[.agg ([.string ⟨r.name.toArray⟩, .string ⟨r.pattern.toArray⟩, .string ⟨r.system.toArray⟩, .string ⟨r.decimal.toArray⟩, .string ⟨r.group.toArray⟩, .string ⟨r.minus.toArray⟩, .string ⟨r.percent.toArray⟩, .string ⟨r.currency.toArray⟩, .slice A p.pre.length c, .slice B p.suf.length d, .slice C p.npre.length a, .slice D p.nsuf.length b, .int .i64 p.num.prim, .int .i64 p.num.sec, .int .i64 p.num.minInt, .int .i64 p.num.minFrac, .int .i64 p.num.maxFrac] : List Value).toArray, .agg ([.bool ddx.neg, .slice Xx ddx.int.length cxx, .bool ddx.sep, .slice Yx ddx.frac.length cyx] : List Value).toArray] W fun e w' => e = .returned (.string ⟨(textI (itemsF (locOf r p) ddx)).toArray⟩) ∧ Ext W w') := Lib.hid fun W hW => ref17_text A B C D Xx Yx c d a b cxx cyx ddx r p W HK.out (HW5.out.pt.ext hW) HW5.out.cap (HDx.out.dr.ext hW) HDx.out.ox HDx.out.oy HOKx.out (by omega) (by omega)
  have hta := text_small HK.out.both ddx
  have HRD : Hid (∀ W, Ext w5 W → Calls Tryz.prog 22 #[.pointer (some ⟨g, 0, none⟩), .string ⟨(textI (itemsF (locOf r p) ddx)).toArray⟩] W fun e w' => ∃ X cx, e = .returned (.tuple #[.agg ([.bool (clT (clF (locOf r p) (textI (itemsF (locOf r p) ddx)))).1, .slice X (clT (clF (locOf r p) (textI (itemsF (locOf r p) ddx)))).2.length cx] : List Value).toArray, .int .i64 (clE (clF (locOf r p) (textI (itemsF (locOf r p) ddx))))]) ∧ Row w' X ((clT (clF (locOf r p) (textI (itemsF (locOf r p) ddx)))).2.map (Value.int .i64)) ∧ Okc X cx ∧ Ext W w') := Lib.hid fun W hW => (HW5.out.ext hW).read HK.out (HTW.out.ext (HX5.out.trans hW)) (by omega)
  have HCF : Hid (clF (locOf r p) (textI (itemsF (locOf r p) ddx)) = if ddx.neg = false ∧ (atomsF ddx).length = 0 then .error 7 else .ok (ddx.neg, atomsF ddx)) := Lib.hid (shown_cl HK.out.both HKO.out HOKx.out (by omega))
  have hal : (atomsF ddx).length ≤ 20 := by rw [atoms_len]; split <;> omega
  have HLR5 := Lib.hid HW5.out.range
  have HDR5 := Lib.hid HDx.out.box.range
  clear HW HXB HXS HBA HRG HRA HGDx HBG HX1 hta HKO
  generalize clF (locOf r p) (textI (itemsF (locOf r p) ddx)) = cl at *
  generalize textI (itemsF (locOf r p) ddx) = ta at *
  go_upto_region 6 with (first
    | (refine wpList_load_mid rfl 43 (.tmp 9) rfl dbx 0 rfl [.bool ddx.neg, .slice Xx ddx.int.length cxx, .bool ddx.sep, .slice Yx ddx.frac.length cyx] _ HDR5.out Tryz.underlying43 rfl infoD14 ?_)
    | (go_at_call 21; with_reducible refine (HAT.out _ (Ext.refl _)).mono ?_; rintro e w6 ⟨F, cF, rfl, hrF, hx6⟩))
  have HRF := Lib.hid hrF
  have HX6 := Lib.hid hx6
  have HLR6 := Lib.hid (HW5.out.ext hx6).range
  have HDR6 := Lib.hid (HDx.out.box.ext hx6).range
  clear hrF hx6 HAT
  generalize hat : atomsF ddx = ats at *
  clear hat
  go_upto_region 7 with (first
    | (refine wpList_load_mid rfl 31 (.tmp 8) rfl lb 0 rfl [.string ⟨r.name.toArray⟩, .string ⟨r.pattern.toArray⟩, .string ⟨r.system.toArray⟩, .string ⟨r.decimal.toArray⟩, .string ⟨r.group.toArray⟩, .string ⟨r.minus.toArray⟩, .string ⟨r.percent.toArray⟩, .string ⟨r.currency.toArray⟩, .slice A p.pre.length c, .slice B p.suf.length d, .slice C p.npre.length a, .slice D p.nsuf.length b, .int .i64 p.num.prim, .int .i64 p.num.sec, .int .i64 p.num.minInt, .int .i64 p.num.minFrac, .int .i64 p.num.maxFrac] _ HLR6.out Tryz.underlying31 rfl infoRL ?_)
    | (refine wpList_load_mid rfl 43 (.tmp 9) rfl dbx 0 rfl [.bool ddx.neg, .slice Xx ddx.int.length cxx, .bool ddx.sep, .slice Yx ddx.frac.length cyx] _ HDR6.out Tryz.underlying43 rfl infoD14 ?_)
    | (go_at_call 23; with_reducible refine (HTA.out _ HX6.out).mono ?_; rintro e w7 ⟨rfl, hx7⟩)
    | (go_at_call 22; with_reducible refine (HRD.out _ (HX6.out.trans hx7)).mono ?_; rintro e w8 ⟨Z, cz, rfl, hrZ, oZ, hx8⟩)
    | (refine wpList_store_fresh rfl 47 (.tmp 11) (.tmp 31) rfl ([.bool (clT cl).1, .slice Z (clT cl).2.length cz] : List Value).toArray 47 _ rfl rfl infoClip rfl (by simp [Value.oneCell']) ?_))
  have hb9 := Box.new w8 47 [.bool (clT cl).1, .slice Z (clT cl).2.length cz]
  have hx9 : Ext w8 (w8.alloc (.cells ([.bool (clT cl).1, .slice Z (clT cl).2.length cz] : List Value).toArray 47)) := Ext.alloc_ (Ext.refl _) _
  have hx59 := HX6.out.trans (hx7.trans (hx8.trans hx9))
  have HX9 := Lib.hid (HX5.out.trans hx59)
  have HRZ := Lib.hid (hrZ.below hx9 (Nat.le_refl _))
  have HRF9 := Lib.hid (HRF.out.below (hx7.trans (hx8.trans hx9)) (Nat.le_refl _))
  have k0 := hb9.cell (j := 0) (v := .bool (clT cl).1) rfl
  have k1 := hb9.cell (j := 1) (v := .slice Z (clT cl).2.length cz) rfl
  have d0' := (HDx.out.box.ext hx59).cell (j := 0) (v := .bool ddx.neg) rfl
  clear hb9 hx9 hx59 hx7 hx8 hrZ oZ HTA HRD HRF HLR6 HDR6 HX6 HLR5 HDR5
  generalize w8.alloc (.cells ([.bool (clT cl).1, .slice Z (clT cl).2.length cz] : List Value).toArray 47) = w9 at *
  generalize w8.heap.size = zb at *
  generalize ddx.neg = ng at *
  by_cases hq : ng = false ∧ ats.length = 0
  · have HZ : Hid (cl = .error 7) := Lib.hid (by rw [HCF.out, if_pos hq])
    obtain ⟨hn, h0⟩ := hq
    have hz1 : (clT cl).1 = false := by rw [HZ.out]; rfl
    have hz2 : (clT cl).2.length = 0 := by rw [HZ.out]; rfl
    have hz3 : clE cl = 7 := by rw [HZ.out]; rfl
    subst hn
    have j1 : ((ats.length : Int) == 0) = true := (beq_iff_eq (a := ((ats.length : Nat) : Int))).2 (by omega)
    rw [hz1] at k0
    rw [hz2] at k1
    clear HCF HRZ HRF9 hal
    generalize (clT cl).2.length = zl at *
    generalize (clT cl).1 = zn at *
    generalize clE cl = ze at *
    have j2 : (ze == 7) = true := by simpa using hz3
    clear hz1 hz2 hz3 h0
    go_wp2_with (go_at_call 19; with_reducible refine (HLV.out _ HX9.out).mono ?_; rintro e w16 ⟨rfl, hx16⟩)
    go_ret
    exact ⟨rfl, HX9.out.trans hx16⟩
  · have HZ : Hid (cl = .ok (ng, ats)) := Lib.hid (by rw [HCF.out, if_neg hq])
    have hz1 : (clT cl).1 = ng := by rw [HZ.out]; rfl
    have hz2 : (clT cl).2 = ats := by rw [HZ.out]; rfl
    have hz3 : clE cl = 0 := by rw [HZ.out]; rfl
    have HSM := Lib.hid (same Z F cz cF (clT cl).2 ats w9 HRZ.out HRF9.out (by rw [hz2]; unfold maxLen; omega) (by unfold maxLen; omega))
    rw [hz2, decide_eq_true rfl] at HSM
    rw [hz1] at k0
    rw [hz2] at k1
    have j5 : ¬ (ng = false ∧ ats.length = 0) := hq
    generalize (clT cl).2.length = zl at *
    generalize clE cl = ze at *
    have j2 : (ze == 0) = true := by simpa using hz3
    clear hz1 hz2 hz3 HCF HRZ HRF9 hq HZ
    by_cases h0 : ats.length = 0
    · have hn : ng = true := by
        cases ng
        · exact absurd ⟨rfl, h0⟩ j5
        · rfl
      have j1 : ((ats.length : Int) == 0) = true := (beq_iff_eq (a := ((ats.length : Nat) : Int))).2 (by omega)
      subst hn
      clear j5 h0
      go_wp2_with (first
        | (go_at_call 24; with_reducible refine HSM.out.mono ?_; rintro e w10 ⟨rfl, hx10⟩; have HX10 := Lib.hid (HX9.out.trans hx10))
        | (go_at_call 19; with_reducible refine (HLV.out _ HX10.out).mono ?_; rintro e w16 ⟨rfl, hx16⟩))
      go_ret
      exact ⟨rfl, HX10.out.trans hx16⟩
    · have j1 : ((ats.length : Int) == 0) = false := beq_eq_false_iff_ne.2 (by omega)
      clear j5 h0
      cases ng
      · go_wp2_with (first
          | (go_at_call 24; with_reducible refine HSM.out.mono ?_; rintro e w10 ⟨rfl, hx10⟩; have HX10 := Lib.hid (HX9.out.trans hx10))
          | (go_at_call 19; with_reducible refine (HLV.out _ HX10.out).mono ?_; rintro e w16 ⟨rfl, hx16⟩))
        go_ret
        exact ⟨rfl, HX10.out.trans hx16⟩
      · go_wp2_with (first
          | (go_at_call 24; with_reducible refine HSM.out.mono ?_; rintro e w10 ⟨rfl, hx10⟩; have HX10 := Lib.hid (HX9.out.trans hx10))
          | (go_at_call 19; with_reducible refine (HLV.out _ HX10.out).mono ?_; rintro e w16 ⟨rfl, hx16⟩))
        go_ret
        exact ⟨rfl, HX10.out.trans hx16⟩
end Go.Proofs.YtaobgbhgckndkaaGreatDoor.Loc
