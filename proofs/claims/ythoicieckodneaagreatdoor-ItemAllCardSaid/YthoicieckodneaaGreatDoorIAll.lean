/- The law ItemAll: a draft's items are the document's, and so is their text. (Printed by wip/gen/law15.py.) -/
import Derived.Test.YthoicieckodneaaGreatDoorItW5
namespace Go.Proofs.YthoicieckodneaaGreatDoor.Loc
open Go.RowKit Utf All Small Strs Build EncC Pat Cls Dec Go.Proofs.YthoicieckodneaaGreatDoor.Sys
set_option linter.unusedVariables false
set_option linter.unusedSimpArgs false
set_option maxHeartbeats 16000000 in
set_option maxRecDepth 1000000 in
theorem law_ItemAll (v0 v1 v2 v3 v4 v5 n : Int) (A0 B0 : Option Addr) (c0 e0 : Nat) (d0 : Dr) (w : World) (h0 : i64 v0) (h1 : i64 v1) (h2 : i64 v2) (h3 : i64 v3) (h4 : i64 v4) (h5 : i64 v5) (hn : i64 n) (hd : DrR w A0 B0 d0) (hi : DrI d0) (hT : Tabs w) :
    Calls Tryz.prog 5 #[.agg ([.int .i64 v0, .int .i64 v1, .int .i64 v2, .int .i64 v3, .int .i64 v4, .int .i64 v5] : List Value).toArray, .int .i64 n, .agg ([.bool d0.neg, .slice A0 d0.int.length c0, .bool d0.sep, .slice B0 d0.frac.length e0] : List Value).toArray] w fun e w' => e = .returned (.bool true) ∧ Below w.heap.size w w' := by
  obtain ⟨r, p, hK, hBG⟩ := begin15 v0 v1 v2 v3 v4 v5 n h0 h1 h2 h3 h4 h5 hn
  obtain ⟨dd, hdok, hdi, hdf, hGd⟩ : ∃ dd : Dr, DrOk dd ∧ dd.int.length ≤ 100 ∧ dd.frac.length ≤ 100 ∧ ∀ W, Ext w W → Calls Tryz.prog 15 #[.agg ([.bool d0.neg, .slice A0 d0.int.length c0, .bool d0.sep, .slice B0 d0.frac.length e0] : List Value).toArray, .int .i64 14, .int .i64 6] W fun e w' => ∃ X Y cx cy, e = .returned (.agg ([.bool dd.neg, .slice X dd.int.length cx, .bool dd.sep, .slice Y dd.frac.length cy] : List Value).toArray) ∧ DrR w' X Y dd ∧ Okc X cx ∧ Okc Y cy ∧ Ext W w' :=
    ⟨goodD d0 14 6, good_ok _ _ _, by have := good_intl d0 14 6; omega, by have := good_fracl d0 14 6; omega, fun W hW => ref14_good A0 B0 c0 e0 d0 14 6 W (hd.ext hW) hi (by decide) (by decide)⟩
  have HK := Lib.hid hK
  have HBG := Lib.hid hBG
  have HTW := Lib.hid hT
  have HGD := Lib.hid hGd
  have HDO := Lib.hid hdok
  have b1 := (Box.new w 23 [.int .i64 v0, .int .i64 v1, .int .i64 v2, .int .i64 v3, .int .i64 v4, .int .i64 v5]).alloc (.cells ([.bool d0.neg, .slice A0 d0.int.length c0, .bool d0.sep, .slice B0 d0.frac.length e0] : List Value).toArray 26)
  have c1 := Box.new (w.alloc (.cells ([.int .i64 v0, .int .i64 v1, .int .i64 v2, .int .i64 v3, .int .i64 v4, .int .i64 v5] : List Value).toArray 23)) 26 [.bool d0.neg, .slice A0 d0.int.length c0, .bool d0.sep, .slice B0 d0.frac.length e0]
  have hs1 : (w.alloc (.cells ([.int .i64 v0, .int .i64 v1, .int .i64 v2, .int .i64 v3, .int .i64 v4, .int .i64 v5] : List Value).toArray 23)).heap.size = w.heap.size + 1 := by simp
  rw [hs1] at c1
  have hx1 : Ext w ((w.alloc (.cells ([.int .i64 v0, .int .i64 v1, .int .i64 v2, .int .i64 v3, .int .i64 v4, .int .i64 v5] : List Value).toArray 23)).alloc (.cells ([.bool d0.neg, .slice A0 d0.int.length c0, .bool d0.sep, .slice B0 d0.frac.length e0] : List Value).toArray 26)) := Ext.alloc_ (Ext.alloc_ (Ext.refl w) _) _
  have HRG := Lib.hid b1.range
  have HRD := Lib.hid c1.range
  have HX1 := Lib.hid hx1
  clear hK hBG hGd hd hi hT b1 c1 hs1 hx1 h0 h1 h2 h3 h4 h5 hn hdok
  go_enter Tryz.func5, Tryz.ntmps5
  go_upto_region 1 with fail
  change Code.wp _ _ _ _ ((w.alloc (.cells ([.int .i64 v0, .int .i64 v1, .int .i64 v2, .int .i64 v3, .int .i64 v4, .int .i64 v5] : List Value).toArray 23)).alloc (.cells ([.bool d0.neg, .slice A0 d0.int.length c0, .bool d0.sep, .slice B0 d0.frac.length e0] : List Value).toArray 26))
  generalize (w.alloc (.cells ([.int .i64 v0, .int .i64 v1, .int .i64 v2, .int .i64 v3, .int .i64 v4, .int .i64 v5] : List Value).toArray 23)).alloc (.cells ([.bool d0.neg, .slice A0 d0.int.length c0, .bool d0.sep, .slice B0 d0.frac.length e0] : List Value).toArray 26) = w1 at *
  generalize w.heap.size + 1 = db0 at *
  go_upto_region 2 with (first
    | (refine wpList_load_mid rfl 23 (.tmp 3) rfl w.heap.size 0 rfl [.int .i64 v0, .int .i64 v1, .int .i64 v2, .int .i64 v3, .int .i64 v4, .int .i64 v5] _ HRG.out Tryz.underlying23 rfl infoG ?_)
    | (go_at_call 14; with_reducible refine (HBG.out _ (HTW.out.ext HX1.out)).mono ?_; rintro e w2 ⟨g, A', B', C', D', c', d', a', b', A, B, C, D, c, d, a, b, rfl, hLR, hpt, hcap, hx2⟩)
    | (refine wpList_store_fresh rfl 34 (.tmp 8) (.tmp 17) rfl (refLV A B C D c d a b r p).toArray 34 _ rfl rfl infoRL rfl (refL_one A B C D c d a b r p) ?_))
  have hb3 := Box.new w2 34 (refLV A B C D c d a b r p)
  have hx3 : Ext w2 (w2.alloc (.cells (refLV A B C D c d a b r p).toArray 34)) := Ext.alloc_ (Ext.refl _) _
  have HLR := Lib.hid (hLR.ext hx3)
  have HPT := Lib.hid (hpt.ext hx3)
  have HCAP := Lib.hid hcap
  have HX3 := Lib.hid (HX1.out.trans (hx2.trans hx3))
  have HRD3 := Lib.hid (Ext.range_ (hx2.trans hx3) HRD.out)
  generalize w2.alloc (.cells (refLV A B C D c d a b r p).toArray 34) = w3 at *
  generalize w2.heap.size = lb at *
  have HLB := Lib.hid hb3
  clear hb3 hx2 hx3 hpt hcap hLR HRG HRD HBG
  go_upto_region 5 with (first
    | (refine wpList_load_mid rfl 26 (.tmp 5) rfl db0 0 rfl [.bool d0.neg, .slice A0 d0.int.length c0, .bool d0.sep, .slice B0 d0.frac.length e0] _ HRD3.out Tryz.underlying26 rfl infoD14 ?_)
    | (go_at_call 15; with_reducible refine (HGD.out _ HX3.out).mono ?_; rintro e w4 ⟨X, Y, cx, cy, rfl, hdr, oX, oY, hx4⟩)
    | (refine wpList_store_fresh rfl 26 (.tmp 9) (.tmp 21) rfl ([.bool dd.neg, .slice X dd.int.length cx, .bool dd.sep, .slice Y dd.frac.length cy] : List Value).toArray 26 _ rfl rfl infoD14 rfl (by simp [Value.oneCell']) ?_))
  have hb5 := Box.new w4 26 [.bool dd.neg, .slice X dd.int.length cx, .bool dd.sep, .slice Y dd.frac.length cy]
  have hx5 : Ext w4 (w4.alloc (.cells ([.bool dd.neg, .slice X dd.int.length cx, .bool dd.sep, .slice Y dd.frac.length cy] : List Value).toArray 26)) := Ext.alloc_ (Ext.refl _) _
  have HX5 := Lib.hid (HX3.out.trans (hx4.trans hx5))
  have HLR5 := Lib.hid (HLR.out.ext (hx4.trans hx5))
  have HPT5 := Lib.hid (HPT.out.ext (hx4.trans hx5))
  have HLB5 := Lib.hid (HLB.out.ext (hx4.trans hx5))
  have HDR5 := Lib.hid (hdr.ext hx5)
  have HOX := Lib.hid oX
  have HOY := Lib.hid oY
  generalize w4.alloc (.cells ([.bool dd.neg, .slice X dd.int.length cx, .bool dd.sep, .slice Y dd.frac.length cy] : List Value).toArray 26) = w5 at *
  generalize w4.heap.size = db at *
  have HDB5 := Lib.hid hb5
  have HRDD := Lib.hid hb5.range
  have HIT : Hid (∀ W, Ext w5 W → Calls Tryz.prog 16 #[.pointer (some ⟨g, 0, none⟩), .agg ([.bool dd.neg, .slice X dd.int.length cx, .bool dd.sep, .slice Y dd.frac.length cy] : List Value).toArray] W fun e w' => ∃ E cE, e = .returned (.slice E (itemsF (locOf r p) dd).length cE) ∧ Row w' E (itsV (itemsF (locOf r p) dd)) ∧ Ext W w') := Lib.hid fun W hW =>
    (item_items g A' B' C' D' X Y c' d' a' b' cx cy dd (locOf r p) W (HLR5.out.ext hW) HK.out.both.may.b HK.out.num (HDR5.out.ext hW) hdi hdf).mono fun e w' ⟨E, cE, h1, h2⟩ => ⟨E, cE, h1, h2.row, h2.ext⟩
  have HIL := Lib.hid (items_le HK.out.both hdi hdf)
  clear hb5 hx4 hx5 hdr oX oY HLR HPT HLB HRD3 HGD
  go_upto_region 6 with (first
    | (refine wpList_load_mid rfl 26 (.tmp 9) rfl db 0 rfl [.bool dd.neg, .slice X dd.int.length cx, .bool dd.sep, .slice Y dd.frac.length cy] _ HRDD.out Tryz.underlying26 rfl infoD14 ?_)
    | (go_at_call 16; with_reducible refine (HIT.out _ (Ext.refl _)).mono ?_; rintro e w6 ⟨E, cE, rfl, hrE, hx6⟩))
  have HRE := Lib.hid hrE
  have HX6 := Lib.hid hx6
  clear hrE hx6
  have HRI : Hid (∀ W, Ext w5 W → Calls Tryz.prog 21 #[.agg ([.string ⟨r.name.toArray⟩, .string ⟨r.pattern.toArray⟩, .string ⟨r.system.toArray⟩, .string ⟨r.decimal.toArray⟩, .string ⟨r.group.toArray⟩, .string ⟨r.minus.toArray⟩, .string ⟨r.percent.toArray⟩, .string ⟨r.currency.toArray⟩, .slice A p.pre.length c, .slice B p.suf.length d, .slice C p.npre.length a, .slice D p.nsuf.length b, .int .i64 p.num.prim, .int .i64 p.num.sec, .int .i64 p.num.minInt, .int .i64 p.num.minFrac, .int .i64 p.num.maxFrac] : List Value).toArray, .agg ([.bool dd.neg, .slice X dd.int.length cx, .bool dd.sep, .slice Y dd.frac.length cy] : List Value).toArray] W fun e w' => ∃ F cF, e = .returned (.slice F (itemsF (locOf r p) dd).length cF) ∧ Row w' F (itsV (itemsF (locOf r p) dd)) ∧ Ext W w') := Lib.hid fun W hW =>
    (ref15_items A B C D X Y c d a b cx cy dd r p W HK.out.both HK.out.num (HPT5.out.ext hW) HCAP.out (HDR5.out.ext hW) HOX.out HOY.out HDO.out hdi hdf).mono fun e w' ⟨F, cF, h1, h2⟩ => ⟨F, cF, h1, h2.row, h2.ext⟩
  have HLV := Lib.hid Ends.law15_lives
  generalize hL : itemsF (locOf r p) dd = L at *
  generalize hN : L.length = N at *
  have HN := Lib.hid hN
  have HAS : Hid (∀ W, Ext w6 W → Calls Tryz.prog 23 #[.slice E N cE] W fun e w' => ∃ F c', e = .returned (.slice F N c') ∧ Row w' F (itsV L) ∧ Ext W w') := Lib.hid fun W hW => as15 E N cE L W (HRE.out.below hW (Nat.le_refl _)) HN.out (by have := HIL.out.1; omega)
  have HTX : Hid (∀ W, Ext w6 W → Calls Tryz.prog 24 #[.slice E N cE] W fun e w' => e = .returned (.string ⟨(textI L).toArray⟩) ∧ Ext W w') := Lib.hid fun W hW => item_text E N cE L W (HRE.out.below hW (Nat.le_refl _)) HN.out (by have := HIL.out.1; omega) HIL.out.2.1
  have HTR : Hid (∀ W F cF, Row W F (itsV L) → Calls Tryz.prog 25 #[.slice F N cF] W fun e w' => e = .returned (.string ⟨(textI L).toArray⟩) ∧ Ext W w') := Lib.hid fun W F cF hF => ref15_text F N cF L W hF HN.out (by have := HIL.out.1; omega) HIL.out.2.1
  have HSM : Hid (∀ W F cF G cG, Row W F (itsV L) → Row W G (itsV L) → Calls Tryz.prog 22 #[.slice F N cF, .slice G N cG] W fun e w' => e = .returned (.bool true) ∧ Ext W w') := Lib.hid fun W F cF G cG hF hG => same15 F G N cF cG L W hF hG HN.out (by have := HIL.out.1; omega)
  have HRL6 : Hid (w6.rangeAt lb 0 [.string ⟨r.name.toArray⟩, .string ⟨r.pattern.toArray⟩, .string ⟨r.system.toArray⟩, .string ⟨r.decimal.toArray⟩, .string ⟨r.group.toArray⟩, .string ⟨r.minus.toArray⟩, .string ⟨r.percent.toArray⟩, .string ⟨r.currency.toArray⟩, .slice A p.pre.length c, .slice B p.suf.length d, .slice C p.npre.length a, .slice D p.nsuf.length b, .int .i64 p.num.prim, .int .i64 p.num.sec, .int .i64 p.num.minInt, .int .i64 p.num.minFrac, .int .i64 p.num.maxFrac]) := Lib.hid (HLB5.out.ext HX6.out).range
  have HRD6 := Lib.hid (Ext.range_ HX6.out HRDD.out)
  clear hN hL
  generalize textI L = TX at *
  go_upto_region 7 with (first
    | (refine wpList_load_mid rfl 34 (.tmp 8) rfl lb 0 rfl [.string ⟨r.name.toArray⟩, .string ⟨r.pattern.toArray⟩, .string ⟨r.system.toArray⟩, .string ⟨r.decimal.toArray⟩, .string ⟨r.group.toArray⟩, .string ⟨r.minus.toArray⟩, .string ⟨r.percent.toArray⟩, .string ⟨r.currency.toArray⟩, .slice A p.pre.length c, .slice B p.suf.length d, .slice C p.npre.length a, .slice D p.nsuf.length b, .int .i64 p.num.prim, .int .i64 p.num.sec, .int .i64 p.num.minInt, .int .i64 p.num.minFrac, .int .i64 p.num.maxFrac] _ HRL6.out Tryz.underlying34 rfl infoRL ?_)
    | (refine wpList_load_mid rfl 26 (.tmp 9) rfl db 0 rfl [.bool dd.neg, .slice X dd.int.length cx, .bool dd.sep, .slice Y dd.frac.length cy] _ HRD6.out Tryz.underlying26 rfl infoD14 ?_)
    | (go_at_call 21; with_reducible refine (HRI.out _ HX6.out).mono ?_; rintro e w7 ⟨F, cF, rfl, hrF, hx7⟩))
  have HRF := Lib.hid hrF
  have HX7 := Lib.hid hx7
  clear hrF hx7
  have hE := Ext.refl w7
  go_wp2_with (first
    | (go_at_call 23; with_reducible refine (HAS.out _ HX7.out).mono ?_; rintro e w8 ⟨G, cG, rfl, hrG, hx8⟩)
    | (go_at_call 22; with_reducible refine (HSM.out _ _ _ _ _ hrG (HRF.out.below hx8 (Nat.le_refl _))).mono ?_; rintro e w9 ⟨rfl, hx9⟩)
    | (go_at_call 24; with_reducible refine (HTX.out _ (HX7.out.trans (hx8.trans hx9))).mono ?_; rintro e w10 ⟨rfl, hx10⟩)
    | (go_at_call 25; with_reducible refine (HTR.out _ _ _ (HRF.out.below (hx8.trans (hx9.trans hx10)) (Nat.le_refl _))).mono ?_; rintro e w11 ⟨rfl, hx11⟩)
    | (go_at_call 17; refine (HLV.out _).mono ?_; rintro e w12 ⟨rfl, rfl⟩))
  go_ret
  exact ⟨rfl, HX5.out.trans (HX6.out.trans (HX7.out.trans (hx8.trans (hx9.trans (hx10.trans hx11)))))⟩
end Go.Proofs.YthoicieckodneaaGreatDoor.Loc
