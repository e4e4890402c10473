/- The law StrictSwitches: by another locale the same draft is shown, and comes back as it was. (Printed by wip/gen/law17.py.) -/
import Derived.Test.YtaobgbhgckndkaaGreatDoorJStX
import Derived.Test.YtaobgbhgckndkaaGreatDoorJPat4
namespace Go.Proofs.YtaobgbhgckndkaaGreatDoor.Loc
open Go.RowKit Utf All Small Strs Build EncC Pat Cls Dec Go.Proofs.YtaobgbhgckndkaaGreatDoor.Sys
set_option linter.unusedVariables false
set_option linter.unusedSimpArgs false
set_option maxHeartbeats 16000000 in
set_option maxRecDepth 1000000 in
theorem law_StrictSwitches (v0 v1 v2 v3 v4 v5 n : Int) (y0 y1 y2 y3 y4 y5 m : Int) (A0 B0 : Option Addr) (c0 e0 : Nat) (d0 : Dr) (s : List UInt8) (w : World) (h0 : i64 v0) (h1 : i64 v1) (h2 : i64 v2) (h3 : i64 v3) (h4 : i64 v4) (h5 : i64 v5) (hn : i64 n) (k0 : i64 y0) (k1 : i64 y1) (k2 : i64 y2) (k3 : i64 y3) (k4 : i64 y4) (k5 : i64 y5) (hm : i64 m) (hd : DrR w A0 B0 d0) (hi : DrI d0) (hs : s.length ≤ maxLen) (hT : Tabs w) :
    Calls Tryz.prog 11 #[.agg ([.int .i64 v0, .int .i64 v1, .int .i64 v2, .int .i64 v3, .int .i64 v4, .int .i64 v5] : List Value).toArray, .int .i64 n, .agg ([.int .i64 y0, .int .i64 y1, .int .i64 y2, .int .i64 y3, .int .i64 y4, .int .i64 y5] : List Value).toArray, .int .i64 m, .agg ([.bool d0.neg, .slice A0 d0.int.length c0, .bool d0.sep, .slice B0 d0.frac.length e0] : List Value).toArray, .string ⟨s.toArray⟩] w fun e w' => e = .returned (.bool true) ∧ Below w.heap.size w w' := by
  obtain ⟨r, p, hK, hBG⟩ := begin17_ v0 v1 v2 v3 v4 v5 n h0 h1 h2 h3 h4 h5 hn
  obtain ⟨r2, p2, hK2, hBG2⟩ := begin17_ y0 y1 y2 y3 y4 y5 m k0 k1 k2 k3 k4 k5 hm
  obtain ⟨ddx, hdokx, hdix, hdfx, hGdx, hEx⟩ : ∃ dd : Dr, DrOk dd ∧ dd.int.length ≤ 10 ∧ dd.frac.length ≤ 5 ∧ (∀ W, Ext w W → Calls Tryz.prog 20 #[.agg ([.bool d0.neg, .slice A0 d0.int.length c0, .bool d0.sep, .slice B0 d0.frac.length e0] : List Value).toArray, .int .i64 10, .int .i64 5] W fun e w' => ∃ X Y cx cy, e = .returned (.agg ([.bool dd.neg, .slice X dd.int.length cx, .bool dd.sep, .slice Y dd.frac.length cy] : List Value).toArray) ∧ DrR w' X Y dd ∧ Okc X cx ∧ Okc Y cy ∧ Ext W w') ∧ dd = goodD d0 10 5 :=
    ⟨goodD d0 10 5, good_ok _ _ _, good_intl d0 10 5, good_fracl d0 10 5, fun W hW => ref14_good A0 B0 c0 e0 d0 10 5 W (hd.ext hW) hi (by decide) (by decide), rfl⟩
  have HGDx := Lib.hid hGdx
  have HOKx := Lib.hid hdokx
  clear hGdx hdokx
  have HK := Lib.hid hK.knd
  have HK2 := Lib.hid hK2.knd
  have HBG := Lib.hid hBG
  have HBG2 := Lib.hid hBG2
  have HTW := Lib.hid hT
  have HFW : Hid (∀ W, Calls Tryz.prog 15 #[.string ⟨s.toArray⟩, .int .i64 20] W fun e w' => e = .returned (.string ⟨(s.take 20).toArray⟩) ∧ W = w') := Lib.hid fun W => few_l s 20 W hs (by decide)
  have HLV : Hid (∀ W, Ext w W → Calls Tryz.prog 31 #[] W fun e w' => e = .returned (.bool true) ∧ Ext W w') := Lib.hid fun W hW => lives17 W (HTW.out.ext hW)
  obtain ⟨b1, b2, b3, hx1⟩ := boxes3 w 23 23 43 [.int .i64 v0, .int .i64 v1, .int .i64 v2, .int .i64 v3, .int .i64 v4, .int .i64 v5] [.int .i64 y0, .int .i64 y1, .int .i64 y2, .int .i64 y3, .int .i64 y4, .int .i64 y5] [.bool d0.neg, .slice A0 d0.int.length c0, .bool d0.sep, .slice B0 d0.frac.length e0]
  have HRG := Lib.hid b1.range
  have HBH := Lib.hid b2
  have HBD := Lib.hid b3
  have HX1 := Lib.hid hx1
  clear hK hBG hK2 hBG2 hd hi hT b1 b2 b3 hx1 h0 h1 h2 h3 h4 h5 hn k0 k1 k2 k3 k4 k5 hm hEx hs
  go_enter Tryz.func11, Tryz.ntmps11
  go_upto_region 1 with fail
  change Code.wp _ _ _ _ (((w.alloc (.cells ([.int .i64 v0, .int .i64 v1, .int .i64 v2, .int .i64 v3, .int .i64 v4, .int .i64 v5] : List Value).toArray 23)).alloc (.cells ([.int .i64 y0, .int .i64 y1, .int .i64 y2, .int .i64 y3, .int .i64 y4, .int .i64 y5] : List Value).toArray 23)).alloc (.cells ([.bool d0.neg, .slice A0 d0.int.length c0, .bool d0.sep, .slice B0 d0.frac.length e0] : List Value).toArray 43))
  generalize ((w.alloc (.cells ([.int .i64 v0, .int .i64 v1, .int .i64 v2, .int .i64 v3, .int .i64 v4, .int .i64 v5] : List Value).toArray 23)).alloc (.cells ([.int .i64 y0, .int .i64 y1, .int .i64 y2, .int .i64 y3, .int .i64 y4, .int .i64 y5] : List Value).toArray 23)).alloc (.cells ([.bool d0.neg, .slice A0 d0.int.length c0, .bool d0.sep, .slice B0 d0.frac.length e0] : List Value).toArray 43) = w1 at *
  go_upto_region 2 with (first
    | (refine wpList_load_mid rfl 23 (.tmp 6) rfl w.heap.size 0 rfl [.int .i64 v0, .int .i64 v1, .int .i64 v2, .int .i64 v3, .int .i64 v4, .int .i64 v5] _ HRG.out Tryz.underlying23 rfl infoG ?_)
    | (go_at_call 26; with_reducible refine (HBG.out _ (HTW.out.ext HX1.out)).mono ?_; rintro e wb ⟨g, A, B, C, D, c, d, a, b, rfl, hlw, hxb⟩)
    | (refine wpList_store_fresh rfl 31 (.tmp 14) (.tmp 31) rfl ([.string ⟨r.name.toArray⟩, .string ⟨r.pattern.toArray⟩, .string ⟨r.system.toArray⟩, .string ⟨r.decimal.toArray⟩, .string ⟨r.group.toArray⟩, .string ⟨r.minus.toArray⟩, .string ⟨r.percent.toArray⟩, .string ⟨r.currency.toArray⟩, .slice A p.pre.length c, .slice B p.suf.length d, .slice C p.npre.length a, .slice D p.nsuf.length b, .int .i64 p.num.prim, .int .i64 p.num.sec, .int .i64 p.num.minInt, .int .i64 p.num.minFrac, .int .i64 p.num.maxFrac] : List Value).toArray 31 _ rfl rfl infoRL rfl (refL_one A B C D c d a b r p) ?_))
  have hxc : Ext wb (wb.alloc (.cells ([.string ⟨r.name.toArray⟩, .string ⟨r.pattern.toArray⟩, .string ⟨r.system.toArray⟩, .string ⟨r.decimal.toArray⟩, .string ⟨r.group.toArray⟩, .string ⟨r.minus.toArray⟩, .string ⟨r.percent.toArray⟩, .string ⟨r.currency.toArray⟩, .slice A p.pre.length c, .slice B p.suf.length d, .slice C p.npre.length a, .slice D p.nsuf.length b, .int .i64 p.num.prim, .int .i64 p.num.sec, .int .i64 p.num.minInt, .int .i64 p.num.minFrac, .int .i64 p.num.maxFrac] : List Value).toArray 31)) := Ext.alloc_ (Ext.refl _) _
  have HW := Lib.hid hlw
  have HXB := Lib.hid (HX1.out.trans (hxb.trans hxc))
  have HXS := Lib.hid (hxb.trans hxc)
  clear hlw hxb hxc
  generalize wb.alloc (.cells ([.string ⟨r.name.toArray⟩, .string ⟨r.pattern.toArray⟩, .string ⟨r.system.toArray⟩, .string ⟨r.decimal.toArray⟩, .string ⟨r.group.toArray⟩, .string ⟨r.minus.toArray⟩, .string ⟨r.percent.toArray⟩, .string ⟨r.currency.toArray⟩, .slice A p.pre.length c, .slice B p.suf.length d, .slice C p.npre.length a, .slice D p.nsuf.length b, .int .i64 p.num.prim, .int .i64 p.num.sec, .int .i64 p.num.minInt, .int .i64 p.num.minFrac, .int .i64 p.num.maxFrac] : List Value).toArray 31) = w3 at *
  generalize wb.heap.size = lb at *
  have HRH := Lib.hid (HBH.out.ext HXS.out).range
  go_upto_region 3 with (first
    | (refine wpList_load_mid rfl 23 (.tmp 8) rfl (w.heap.size + 1) 0 rfl [.int .i64 y0, .int .i64 y1, .int .i64 y2, .int .i64 y3, .int .i64 y4, .int .i64 y5] _ HRH.out Tryz.underlying23 rfl infoG ?_)
    | (go_at_call 26; with_reducible refine (HBG2.out _ (HTW.out.ext HXB.out)).mono ?_; rintro e wb ⟨g2, A2, B2, C2, D2, c2, d2, a2, b2, rfl, hlw, hxb⟩)
    | (refine wpList_store_fresh rfl 31 (.tmp 16) (.tmp 37) rfl ([.string ⟨r2.name.toArray⟩, .string ⟨r2.pattern.toArray⟩, .string ⟨r2.system.toArray⟩, .string ⟨r2.decimal.toArray⟩, .string ⟨r2.group.toArray⟩, .string ⟨r2.minus.toArray⟩, .string ⟨r2.percent.toArray⟩, .string ⟨r2.currency.toArray⟩, .slice A2 p2.pre.length c2, .slice B2 p2.suf.length d2, .slice C2 p2.npre.length a2, .slice D2 p2.nsuf.length b2, .int .i64 p2.num.prim, .int .i64 p2.num.sec, .int .i64 p2.num.minInt, .int .i64 p2.num.minFrac, .int .i64 p2.num.maxFrac] : List Value).toArray 31 _ rfl rfl infoRL rfl (refL_one A2 B2 C2 D2 c2 d2 a2 b2 r2 p2) ?_))
  have hxc : Ext wb (wb.alloc (.cells ([.string ⟨r2.name.toArray⟩, .string ⟨r2.pattern.toArray⟩, .string ⟨r2.system.toArray⟩, .string ⟨r2.decimal.toArray⟩, .string ⟨r2.group.toArray⟩, .string ⟨r2.minus.toArray⟩, .string ⟨r2.percent.toArray⟩, .string ⟨r2.currency.toArray⟩, .slice A2 p2.pre.length c2, .slice B2 p2.suf.length d2, .slice C2 p2.npre.length a2, .slice D2 p2.nsuf.length b2, .int .i64 p2.num.prim, .int .i64 p2.num.sec, .int .i64 p2.num.minInt, .int .i64 p2.num.minFrac, .int .i64 p2.num.maxFrac] : List Value).toArray 31)) := Ext.alloc_ (Ext.refl _) _
  have HW2 := Lib.hid hlw
  have HXB2 := Lib.hid (HXB.out.trans (hxb.trans hxc))
  have HXS2 := Lib.hid (hxb.trans hxc)
  clear hlw hxb hxc
  generalize wb.alloc (.cells ([.string ⟨r2.name.toArray⟩, .string ⟨r2.pattern.toArray⟩, .string ⟨r2.system.toArray⟩, .string ⟨r2.decimal.toArray⟩, .string ⟨r2.group.toArray⟩, .string ⟨r2.minus.toArray⟩, .string ⟨r2.percent.toArray⟩, .string ⟨r2.currency.toArray⟩, .slice A2 p2.pre.length c2, .slice B2 p2.suf.length d2, .slice C2 p2.npre.length a2, .slice D2 p2.nsuf.length b2, .int .i64 p2.num.prim, .int .i64 p2.num.sec, .int .i64 p2.num.minInt, .int .i64 p2.num.minFrac, .int .i64 p2.num.maxFrac] : List Value).toArray 31) = w5 at *
  generalize wb.heap.size = lb2 at *
  have HRD := Lib.hid (HBD.out.ext (HXS.out.trans HXS2.out)).range
  go_upto_region 6 with (first
    | (refine wpList_load_mid rfl 43 (.tmp 10) rfl (w.heap.size + 1 + 1) 0 rfl [.bool d0.neg, .slice A0 d0.int.length c0, .bool d0.sep, .slice B0 d0.frac.length e0] _ HRD.out Tryz.underlying43 rfl infoD14 ?_)
    | (go_at_call 20; with_reducible refine (HGDx.out _ HXB2.out).mono ?_; rintro e wg ⟨Xx, Yx, cxx, cyx, rfl, hdr, oX, oY, hxg⟩)
    | (refine wpList_store_fresh rfl 43 (.tmp 17) (.tmp 45) rfl ([.bool ddx.neg, .slice Xx ddx.int.length cxx, .bool ddx.sep, .slice Yx ddx.frac.length cyx] : List Value).toArray 43 _ rfl rfl infoD14 rfl (by simp [Value.oneCell']) ?_))
  have HDx := Lib.hid (Dw.new (T := 43) hdr oX oY)
  have HYx := Lib.hid (hxg.trans (Ext.alloc_ (Ext.refl wg) (.cells ([.bool ddx.neg, .slice Xx ddx.int.length cxx, .bool ddx.sep, .slice Yx ddx.frac.length cyx] : List Value).toArray 43)))
  clear hdr oX oY hxg
  change Hid (Dw (wg.alloc (.cells ([.bool ddx.neg, .slice Xx ddx.int.length cxx, .bool ddx.sep, .slice Yx ddx.frac.length cyx] : List Value).toArray 43)) wg.heap.size 43 Xx cxx Yx cyx ddx) at HDx
  generalize wg.alloc (.cells ([.bool ddx.neg, .slice Xx ddx.int.length cxx, .bool ddx.sep, .slice Yx ddx.frac.length cyx] : List Value).toArray 43) = w6 at *
  generalize wg.heap.size = dbx at *
  have HX6 := Lib.hid (HXB2.out.trans HYx.out)
  have HLA := Lib.hid (HW.out.ext (HXS2.out.trans HYx.out))
  have HLB := Lib.hid (HW2.out.ext HYx.out)
  clear HW HW2 HBG HBG2 HGDx HRG HRH HRD HBH HBD HX1 HXB HXB2 HXS HXS2 HYx
  have HTA : Hid (∀ W, Ext w6 W → Calls Tryz.prog 23 #[.agg ([.string ⟨r.name.toArray⟩, .string ⟨r.pattern.toArray⟩, .string ⟨r.system.toArray⟩, .string ⟨r.decimal.toArray⟩, .string ⟨r.group.toArray⟩, .string ⟨r.minus.toArray⟩, .string ⟨r.percent.toArray⟩, .string ⟨r.currency.toArray⟩, .slice A p.pre.length c, .slice B p.suf.length d, .slice C p.npre.length a, .slice D p.nsuf.length b, .int .i64 p.num.prim, .int .i64 p.num.sec, .int .i64 p.num.minInt, .int .i64 p.num.minFrac, .int .i64 p.num.maxFrac] : List Value).toArray, .agg ([.bool ddx.neg, .slice Xx ddx.int.length cxx, .bool ddx.sep, .slice Yx ddx.frac.length cyx] : List Value).toArray] W fun e w' => e = .returned (.string ⟨(textI (itemsF (locOf r p) ddx)).toArray⟩) ∧ Ext W w') := Lib.hid fun W hW => (HLA.out.ext hW).rtext HK.out (HDx.out.dr.ext hW) HDx.out.ox HDx.out.oy HOKx.out (by omega) (by omega)
  have HTB : Hid (∀ W, Ext w6 W → Calls Tryz.prog 23 #[.agg ([.string ⟨r2.name.toArray⟩, .string ⟨r2.pattern.toArray⟩, .string ⟨r2.system.toArray⟩, .string ⟨r2.decimal.toArray⟩, .string ⟨r2.group.toArray⟩, .string ⟨r2.minus.toArray⟩, .string ⟨r2.percent.toArray⟩, .string ⟨r2.currency.toArray⟩, .slice A2 p2.pre.length c2, .slice B2 p2.suf.length d2, .slice C2 p2.npre.length a2, .slice D2 p2.nsuf.length b2, .int .i64 p2.num.prim, .int .i64 p2.num.sec, .int .i64 p2.num.minInt, .int .i64 p2.num.minFrac, .int .i64 p2.num.maxFrac] : List Value).toArray, .agg ([.bool ddx.neg, .slice Xx ddx.int.length cxx, .bool ddx.sep, .slice Yx ddx.frac.length cyx] : List Value).toArray] W fun e w' => e = .returned (.string ⟨(textI (itemsF (locOf r2 p2) ddx)).toArray⟩) ∧ Ext W w') := Lib.hid fun W hW => (HLB.out.ext hW).rtext HK2.out (HDx.out.dr.ext hW) HDx.out.ox HDx.out.oy HOKx.out (by omega) (by omega)
  have hta := text_small HK.out.both ddx
  have htb := text_small HK2.out.both ddx
  have HSA : Hid (∀ W, Ext w6 W → Calls Tryz.prog 41 #[.pointer (some ⟨g, 0, none⟩), .pointer (some ⟨g2, 0, none⟩), .string ⟨(textI (itemsF (locOf r p) ddx)).toArray⟩] W fun e w' => e = .returned (.tuple #[.string ⟨(textI (itemsF (locOf r2 p2) ddx)).toArray⟩, .int .i64 0]) ∧ Ext W w') := Lib.hid fun W hW => by
    have hh := (HLA.out.ext hW).sw HK.out (HLB.out.ext hW) HK2.out (s := textI (itemsF (locOf r p) ddx)) (by omega)
    rwa [swT_of HK.out.both (locOf r2 p2) HOKx.out, (rd_of HK.out.both HOKx.out).2] at hh
  have HSB : Hid (∀ W, Ext w6 W → Calls Tryz.prog 41 #[.pointer (some ⟨g2, 0, none⟩), .pointer (some ⟨g, 0, none⟩), .string ⟨(textI (itemsF (locOf r2 p2) ddx)).toArray⟩] W fun e w' => e = .returned (.tuple #[.string ⟨(textI (itemsF (locOf r p) ddx)).toArray⟩, .int .i64 0]) ∧ Ext W w') := Lib.hid fun W hW => by
    have hh := (HLB.out.ext hW).sw HK2.out (HLA.out.ext hW) HK.out (s := textI (itemsF (locOf r2 p2) ddx)) (by omega)
    rwa [swT_of HK2.out.both (locOf r p) HOKx.out, (rd_of HK2.out.both HOKx.out).2] at hh
  have hsl : (s.take 20).length ≤ 5000 := by rw [List.length_take]; omega
  have HSC : Hid (∀ W, Ext w6 W → Calls Tryz.prog 41 #[.pointer (some ⟨g, 0, none⟩), .pointer (some ⟨g2, 0, none⟩), .string ⟨(s.take 20).toArray⟩] W fun e w' => e = .returned (.tuple #[.string ⟨(swT (locOf r p) (locOf r2 p2) (s.take 20)).toArray⟩, .int .i64 (rdE (locOf r p) (s.take 20))]) ∧ Ext W w') := Lib.hid fun W hW => (HLA.out.ext hW).sw HK.out (HLB.out.ext hW) HK2.out hsl
  have HRP : Hid (∀ W, Ext w6 W → Calls Tryz.prog 28 #[.agg ([.string ⟨r.name.toArray⟩, .string ⟨r.pattern.toArray⟩, .string ⟨r.system.toArray⟩, .string ⟨r.decimal.toArray⟩, .string ⟨r.group.toArray⟩, .string ⟨r.minus.toArray⟩, .string ⟨r.percent.toArray⟩, .string ⟨r.currency.toArray⟩, .slice A p.pre.length c, .slice B p.suf.length d, .slice C p.npre.length a, .slice D p.nsuf.length b, .int .i64 p.num.prim, .int .i64 p.num.sec, .int .i64 p.num.minInt, .int .i64 p.num.minFrac, .int .i64 p.num.maxFrac] : List Value).toArray, .string ⟨(s.take 20).toArray⟩] W fun e w' => ∃ X Y cx cy, e = .returned (.tuple #[.agg ([.bool (rdD (locOf r p) (s.take 20)).neg, .slice X (rdD (locOf r p) (s.take 20)).int.length cx, .bool (rdD (locOf r p) (s.take 20)).sep, .slice Y (rdD (locOf r p) (s.take 20)).frac.length cy] : List Value).toArray, .int .i64 (rdE (locOf r p) (s.take 20))]) ∧ DrR w' X Y (rdD (locOf r p) (s.take 20)) ∧ Okc X cx ∧ Okc Y cy ∧ Ext W w') := Lib.hid fun W hW => (HLA.out.ext hW).rparse HK.out hsl
  have HRK : Hid (DrOk (rdD (locOf r p) (s.take 20)) ∧ (rdD (locOf r p) (s.take 20)).int.length ≤ 5000 ∧ (rdD (locOf r p) (s.take 20)).frac.length ≤ 5000) := Lib.hid ⟨rd_ok HK.out.both _, rd_small HK.out.both hsl⟩
  have HTC : Hid (∀ W X Y cx cy, Ext w6 W → DrR W X Y (rdD (locOf r p) (s.take 20)) → Okc X cx → Okc Y cy → Calls Tryz.prog 23 #[.agg ([.string ⟨r2.name.toArray⟩, .string ⟨r2.pattern.toArray⟩, .string ⟨r2.system.toArray⟩, .string ⟨r2.decimal.toArray⟩, .string ⟨r2.group.toArray⟩, .string ⟨r2.minus.toArray⟩, .string ⟨r2.percent.toArray⟩, .string ⟨r2.currency.toArray⟩, .slice A2 p2.pre.length c2, .slice B2 p2.suf.length d2, .slice C2 p2.npre.length a2, .slice D2 p2.nsuf.length b2, .int .i64 p2.num.prim, .int .i64 p2.num.sec, .int .i64 p2.num.minInt, .int .i64 p2.num.minFrac, .int .i64 p2.num.maxFrac] : List Value).toArray, .agg ([.bool (rdD (locOf r p) (s.take 20)).neg, .slice X (rdD (locOf r p) (s.take 20)).int.length cx, .bool (rdD (locOf r p) (s.take 20)).sep, .slice Y (rdD (locOf r p) (s.take 20)).frac.length cy] : List Value).toArray] W fun e w' => e = .returned (.string ⟨(textI (itemsF (locOf r2 p2) (rdD (locOf r p) (s.take 20)))).toArray⟩) ∧ Ext W w') := Lib.hid fun W X Y cx cy hW hd ox oy => (HLB.out.ext hW).rtext HK2.out hd ox oy HRK.out.1 HRK.out.2.1 HRK.out.2.2
  have HSD : Hid (swT (locOf r p) (locOf r2 p2) (s.take 20) = if rdE (locOf r p) (s.take 20) = 0 then textI (itemsF (locOf r2 p2) (rdD (locOf r p) (s.take 20))) else []) := Lib.hid rfl
  have HLAR := Lib.hid HLA.out.range
  have HLBR := Lib.hid HLB.out.range
  have HDR := Lib.hid HDx.out.box.range
  clear hta htb hsl HRK
  generalize textI (itemsF (locOf r p) ddx) = ta at *
  generalize textI (itemsF (locOf r2 p2) ddx) = tb at *
  generalize textI (itemsF (locOf r2 p2) (rdD (locOf r p) (s.take 20))) = tc at *
  generalize swT (locOf r p) (locOf r2 p2) (s.take 20) = so at *
  generalize rdE (locOf r p) (s.take 20) = re at *
  generalize rdD (locOf r p) (s.take 20) = rd at *
  generalize s.take 20 = s2 at *
  go_upto_region 7 with (first
    | (refine wpList_load_mid rfl 31 (.tmp 14) rfl lb 0 rfl [.string ⟨r.name.toArray⟩, .string ⟨r.pattern.toArray⟩, .string ⟨r.system.toArray⟩, .string ⟨r.decimal.toArray⟩, .string ⟨r.group.toArray⟩, .string ⟨r.minus.toArray⟩, .string ⟨r.percent.toArray⟩, .string ⟨r.currency.toArray⟩, .slice A p.pre.length c, .slice B p.suf.length d, .slice C p.npre.length a, .slice D p.nsuf.length b, .int .i64 p.num.prim, .int .i64 p.num.sec, .int .i64 p.num.minInt, .int .i64 p.num.minFrac, .int .i64 p.num.maxFrac] _ HLAR.out Tryz.underlying31 rfl infoRL ?_)
    | (refine wpList_load_mid rfl 43 (.tmp 17) rfl dbx 0 rfl [.bool ddx.neg, .slice Xx ddx.int.length cxx, .bool ddx.sep, .slice Yx ddx.frac.length cyx] _ HDR.out Tryz.underlying43 rfl infoD14 ?_)
    | (go_at_call 23; with_reducible refine (HTA.out _ (Ext.refl _)).mono ?_; rintro e w7 ⟨rfl, hx7⟩)
    | (go_at_call 41; with_reducible refine (HSA.out _ hx7).mono ?_; rintro e w8 ⟨rfl, hx8⟩))
  have HX8 := Lib.hid (hx7.trans hx8)
  clear hx7 hx8
  go_upto_region 8 with (go_at_call 41; with_reducible refine (HSB.out _ HX8.out).mono ?_; rintro e w9 ⟨rfl, hx9⟩)
  have HX9 := Lib.hid (HX8.out.trans hx9)
  clear hx9
  go_upto_region 9 with (go_at_call 15; with_reducible refine (HFW.out _).mono ?_; rintro e wz ⟨rfl, rfl⟩)
  go_upto_region 10 with (go_at_call 41; with_reducible refine (HSC.out _ HX9.out).mono ?_; rintro e w10 ⟨rfl, hx10⟩)
  have HX10 := Lib.hid (HX9.out.trans hx10)
  have HLA10 := Lib.hid (HLA.out.ext HX10.out).range
  clear hx10
  go_upto_region 11 with (first
    | (refine wpList_load_mid_g (by rfl) 31 (.tmp 14) rfl lb 0 rfl [.string ⟨r.name.toArray⟩, .string ⟨r.pattern.toArray⟩, .string ⟨r.system.toArray⟩, .string ⟨r.decimal.toArray⟩, .string ⟨r.group.toArray⟩, .string ⟨r.minus.toArray⟩, .string ⟨r.percent.toArray⟩, .string ⟨r.currency.toArray⟩, .slice A p.pre.length c, .slice B p.suf.length d, .slice C p.npre.length a, .slice D p.nsuf.length b, .int .i64 p.num.prim, .int .i64 p.num.sec, .int .i64 p.num.minInt, .int .i64 p.num.minFrac, .int .i64 p.num.maxFrac] _ HLA10.out Tryz.underlying31 rfl infoRL ?_)
    | (go_at_call 28; with_reducible refine (HRP.out _ HX10.out).mono ?_; rintro e w11 ⟨X, Y, cx, cy, rfl, hdr, oX, oY, hx11⟩)
    | (refine wpList_store_fresh rfl 43 (.tmp 24) (.tmp 75) rfl ([.bool rd.neg, .slice X rd.int.length cx, .bool rd.sep, .slice Y rd.frac.length cy] : List Value).toArray 43 _ rfl rfl infoD14 rfl (by simp [Value.oneCell']) ?_))
  have HDP := Lib.hid (Dw.new (T := 43) hdr oX oY)
  change Hid (Dw (w11.alloc (.cells ([.bool rd.neg, .slice X rd.int.length cx, .bool rd.sep, .slice Y rd.frac.length cy] : List Value).toArray 43)) w11.heap.size 43 X cx Y cy rd) at HDP
  have HX12 : Hid (Ext w6 (w11.alloc (.cells ([.bool rd.neg, .slice X rd.int.length cx, .bool rd.sep, .slice Y rd.frac.length cy] : List Value).toArray 43))) := Lib.hid (HX10.out.trans (hx11.trans (Ext.alloc_ (Ext.refl _) _)))
  clear hdr oX oY hx11 HX10 HX9 HX8
  generalize w11.alloc (.cells ([.bool rd.neg, .slice X rd.int.length cx, .bool rd.sep, .slice Y rd.frac.length cy] : List Value).toArray 43) = w12 at *
  generalize w11.heap.size = dbp at *
  have HLA12 := Lib.hid (HLA.out.ext HX12.out).range
  have HLB12 := Lib.hid (HLB.out.ext HX12.out).range
  have HD12 := Lib.hid (HDx.out.box.ext HX12.out).range
  go_upto_region 13 with (first
    | (refine wpList_load_mid_g (by rfl) 31 (.tmp 16) rfl lb2 0 rfl [.string ⟨r2.name.toArray⟩, .string ⟨r2.pattern.toArray⟩, .string ⟨r2.system.toArray⟩, .string ⟨r2.decimal.toArray⟩, .string ⟨r2.group.toArray⟩, .string ⟨r2.minus.toArray⟩, .string ⟨r2.percent.toArray⟩, .string ⟨r2.currency.toArray⟩, .slice A2 p2.pre.length c2, .slice B2 p2.suf.length d2, .slice C2 p2.npre.length a2, .slice D2 p2.nsuf.length b2, .int .i64 p2.num.prim, .int .i64 p2.num.sec, .int .i64 p2.num.minInt, .int .i64 p2.num.minFrac, .int .i64 p2.num.maxFrac] _ HLB12.out Tryz.underlying31 rfl infoRL ?_)
    | (refine wpList_load_mid_g (by rfl) 43 (.tmp 17) rfl dbx 0 rfl [.bool ddx.neg, .slice Xx ddx.int.length cxx, .bool ddx.sep, .slice Yx ddx.frac.length cyx] _ HD12.out Tryz.underlying43 rfl infoD14 ?_)
    | (go_at_call 23; with_reducible refine (HTB.out _ HX12.out).mono ?_; rintro e w13 ⟨rfl, hx13⟩; have HE13 := Lib.hid hx13; have HX13 := Lib.hid (HX12.out.trans hx13); have HLA13 := Lib.hid (HLA.out.ext HX13.out).range; have HD13 := Lib.hid (HDx.out.box.ext HX13.out).range; clear hx13)
    | (refine wpList_load_mid_g (by rfl) 31 (.tmp 14) rfl lb 0 rfl [.string ⟨r.name.toArray⟩, .string ⟨r.pattern.toArray⟩, .string ⟨r.system.toArray⟩, .string ⟨r.decimal.toArray⟩, .string ⟨r.group.toArray⟩, .string ⟨r.minus.toArray⟩, .string ⟨r.percent.toArray⟩, .string ⟨r.currency.toArray⟩, .slice A p.pre.length c, .slice B p.suf.length d, .slice C p.npre.length a, .slice D p.nsuf.length b, .int .i64 p.num.prim, .int .i64 p.num.sec, .int .i64 p.num.minInt, .int .i64 p.num.minFrac, .int .i64 p.num.maxFrac] _ HLA13.out Tryz.underlying31 rfl infoRL ?_)
    | (refine wpList_load_mid_g (by rfl) 43 (.tmp 17) rfl dbx 0 rfl [.bool ddx.neg, .slice Xx ddx.int.length cxx, .bool ddx.sep, .slice Yx ddx.frac.length cyx] _ HD13.out Tryz.underlying43 rfl infoD14 ?_)
    | (go_at_call 23; with_reducible refine (HTA.out _ HX13.out).mono ?_; rintro e w14 ⟨rfl, hx14⟩))
  have HX14 := Lib.hid (HX13.out.trans hx14)
  have HLB14 := Lib.hid (HLB.out.ext HX14.out).range
  have HDP14 := Lib.hid (HDP.out.ext (HE13.out.trans hx14))
  have HDR14 := Lib.hid HDP14.out.box.range
  clear hx14
  by_cases h0 : re = 0
  · have hso : so = tc := by rw [HSD.out, if_pos h0]
    have j1 : (re != 0) = false := by simpa using h0
    have j2 : (re == 0) = true := by simpa using h0
    subst hso
    clear h0 HSD
    go_wp2_with (first
      | (refine wpList_load_mid_g (by rfl) 31 (.tmp 16) rfl lb2 0 rfl [.string ⟨r2.name.toArray⟩, .string ⟨r2.pattern.toArray⟩, .string ⟨r2.system.toArray⟩, .string ⟨r2.decimal.toArray⟩, .string ⟨r2.group.toArray⟩, .string ⟨r2.minus.toArray⟩, .string ⟨r2.percent.toArray⟩, .string ⟨r2.currency.toArray⟩, .slice A2 p2.pre.length c2, .slice B2 p2.suf.length d2, .slice C2 p2.npre.length a2, .slice D2 p2.nsuf.length b2, .int .i64 p2.num.prim, .int .i64 p2.num.sec, .int .i64 p2.num.minInt, .int .i64 p2.num.minFrac, .int .i64 p2.num.maxFrac] _ HLB14.out Tryz.underlying31 rfl infoRL ?_)
      | (refine wpList_load_mid_g (by rfl) 43 (.tmp 24) rfl dbp 0 rfl [.bool rd.neg, .slice X rd.int.length cx, .bool rd.sep, .slice Y rd.frac.length cy] _ HDR14.out Tryz.underlying43 rfl infoD14 ?_)
      | (go_at_call 23; with_reducible refine (HTC.out _ X Y cx cy HX14.out HDP14.out.dr HDP14.out.ox HDP14.out.oy).mono ?_; rintro e w15 ⟨rfl, hx15⟩; have HX15 := Lib.hid (HX6.out.trans (HX14.out.trans hx15)))
      | (go_at_call 31; with_reducible refine (HLV.out _ HX15.out).mono ?_; rintro e w16 ⟨rfl, hx16⟩))
    go_ret
    exact ⟨rfl, HX15.out.trans hx16⟩
  · have hso : so = [] := by rw [HSD.out, if_neg h0]
    have j1 : (re != 0) = true := by simpa using h0
    have j2 : (re == 0) = false := by simpa using h0
    subst hso
    clear h0 HSD
    have HX15 := Lib.hid (HX6.out.trans HX14.out)
    go_wp2_with (go_at_call 31; with_reducible refine (HLV.out _ HX15.out).mono ?_; rintro e w16 ⟨rfl, hx16⟩)
    go_ret
    exact ⟨rfl, HX15.out.trans hx16⟩
end Go.Proofs.YtaobgbhgckndkaaGreatDoor.Loc
