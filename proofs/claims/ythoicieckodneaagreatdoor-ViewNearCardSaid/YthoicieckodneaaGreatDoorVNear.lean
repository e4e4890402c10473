/- The law ViewNear: the number whose stop is nearest, and the tag, of each byte, is the document's. (Printed by wip/gen/law16.py.) -/
import Derived.Test.YthoicieckodneaaGreatDoorVwP5
import Derived.Test.YthoicieckodneaaGreatDoorVwW5
namespace Go.Proofs.YthoicieckodneaaGreatDoor.Loc
open Go.RowKit Utf All Small Strs Build EncC Pat Cls Dec Go.Proofs.YthoicieckodneaaGreatDoor.Sys
set_option linter.unusedVariables false
set_option linter.unusedSimpArgs false

set_option maxHeartbeats 16000000 in
set_option maxRecDepth 1000000 in
theorem law_ViewNear (v0 v1 v2 v3 v4 v5 n : Int) (A0 B0 : Option Addr) (c0 e0 : Nat) (d0 : Dr) (off : Int) (w : World) (h0 : i64 v0) (h1 : i64 v1) (h2 : i64 v2) (h3 : i64 v3) (h4 : i64 v4) (h5 : i64 v5) (hn : i64 n) (hd : DrR w A0 B0 d0) (hi : DrI d0) (hoff : i64 off) (hT : Tabs w) :
    Calls Tryz.prog 13 #[.agg ([.int .i64 v0, .int .i64 v1, .int .i64 v2, .int .i64 v3, .int .i64 v4, .int .i64 v5] : List Value).toArray, .int .i64 n, .agg ([.bool d0.neg, .slice A0 d0.int.length c0, .bool d0.sep, .slice B0 d0.frac.length e0] : List Value).toArray, .int .i64 off] w fun e w' => e = .returned (.bool true) ∧ Below w.heap.size w w' := by
  obtain ⟨r, p, dd, hK, hdok, hdi, hdf, hBG⟩ := begin16 v0 v1 v2 v3 v4 v5 n A0 B0 c0 e0 d0 h0 h1 h2 h3 h4 h5 hn hi
  have HK := Lib.hid hK
  have HBG := Lib.hid hBG
  have HTW := Lib.hid hT
  have HDA := Lib.hid hd
  have HDO := Lib.hid hdok
  have HDI : Hid (dd.int.length ≤ 100) := Lib.hid (by omega)
  have HDF : Hid (dd.frac.length ≤ 100) := Lib.hid (by omega)
  have HIL := Lib.hid (items_le hK.both (d := dd) (by omega) (by omega))
  have HSN : Hid ((stopsP (itemsF (locOf r p) dd) (ahead (locOf r p) dd.neg).length).length = (atomsF dd).length + 1) := Lib.hid (stops_len hdok)
  have HUP := Lib.hid (stops_up hK.both hdok)
  have hal : (atomsF dd).length ≤ 19 := by rw [atoms_len]; split <;> omega
  have HLV : Hid (∀ W, Ext w W → Calls Tryz.prog 37 #[] W fun e w' => e = .returned (.bool true) ∧ Ext W w') := Lib.hid fun W hW => lives16 W (HTW.out.ext hW)
  have b1 := (Box.new w 23 [.int .i64 v0, .int .i64 v1, .int .i64 v2, .int .i64 v3, .int .i64 v4, .int .i64 v5]).alloc (.cells ([.bool d0.neg, .slice A0 d0.int.length c0, .bool d0.sep, .slice B0 d0.frac.length e0] : List Value).toArray 26)
  have c1 := Box.new (w.alloc (.cells ([.int .i64 v0, .int .i64 v1, .int .i64 v2, .int .i64 v3, .int .i64 v4, .int .i64 v5] : List Value).toArray 23)) 26 [.bool d0.neg, .slice A0 d0.int.length c0, .bool d0.sep, .slice B0 d0.frac.length e0]
  have hs1 : (w.alloc (.cells ([.int .i64 v0, .int .i64 v1, .int .i64 v2, .int .i64 v3, .int .i64 v4, .int .i64 v5] : List Value).toArray 23)).heap.size = w.heap.size + 1 := by simp
  rw [hs1] at c1
  have hx1 : Ext w ((w.alloc (.cells ([.int .i64 v0, .int .i64 v1, .int .i64 v2, .int .i64 v3, .int .i64 v4, .int .i64 v5] : List Value).toArray 23)).alloc (.cells ([.bool d0.neg, .slice A0 d0.int.length c0, .bool d0.sep, .slice B0 d0.frac.length e0] : List Value).toArray 26)) := Ext.alloc_ (Ext.alloc_ (Ext.refl w) _) _
  have HRG := Lib.hid b1.range
  have HRD := Lib.hid c1.range
  have HX1 := Lib.hid hx1
  clear hK hBG hd hi hT b1 c1 hs1 hx1 h0 h1 h2 h3 h4 h5 hn hdok
  go_enter Tryz.func13, Tryz.ntmps13
  go_upto_region 1 with fail
  change Code.wp _ _ _ _ ((w.alloc (.cells ([.int .i64 v0, .int .i64 v1, .int .i64 v2, .int .i64 v3, .int .i64 v4, .int .i64 v5] : List Value).toArray 23)).alloc (.cells ([.bool d0.neg, .slice A0 d0.int.length c0, .bool d0.sep, .slice B0 d0.frac.length e0] : List Value).toArray 26))
  generalize (w.alloc (.cells ([.int .i64 v0, .int .i64 v1, .int .i64 v2, .int .i64 v3, .int .i64 v4, .int .i64 v5] : List Value).toArray 23)).alloc (.cells ([.bool d0.neg, .slice A0 d0.int.length c0, .bool d0.sep, .slice B0 d0.frac.length e0] : List Value).toArray 26) = w1 at *
  generalize w.heap.size + 1 = db0 at *
  go_upto_region 2 with (first
    | (refine wpList_load_mid rfl 23 (.tmp 4) rfl w.heap.size 0 rfl [.int .i64 v0, .int .i64 v1, .int .i64 v2, .int .i64 v3, .int .i64 v4, .int .i64 v5] _ HRG.out Tryz.underlying23 rfl infoG ?_)
    | (refine wpList_load_mid rfl 26 (.tmp 6) rfl db0 0 rfl [.bool d0.neg, .slice A0 d0.int.length c0, .bool d0.sep, .slice B0 d0.frac.length e0] _ HRD.out Tryz.underlying26 rfl infoD14 ?_)
    | (go_at_call 30; with_reducible refine (HBG.out _ (HTW.out.ext HX1.out) (HDA.out.ext HX1.out)).mono ?_; rintro e w2 ⟨vb, E, cE, F, cF, A, B, C, D, c, d, a, b, X, Y, cx, cy, rfl, hvw, hpt, hcap, hdr, oX, oY, ⟨g, A', B', C', D', c', d', a', b', hLR⟩, hx2⟩; have hz1 := (Box.new w2 34 zero17).alloc (.cells zeroD.toArray 26); have hz2 := box_two w2 34 26 zero17 zeroD; have hz3 := hz2.other (k := w2.heap.size) (by omega) (refLV A B C D c d a b r p).toArray)
    | (refine wpList_store_row rfl 34 (.tmp 10) (.tmp 22) rfl w2.heap.size (refLV A B C D c d a b r p).toArray rfl rfl _ _ hz1 infoRL rfl (refL_one A B C D c d a b r p) ?_)
    | (refine wpList_store_row rfl 26 (.tmp 11) (.tmp 23) rfl (w2.heap.size + 1) ([.bool dd.neg, .slice X dd.int.length cx, .bool dd.sep, .slice Y dd.frac.length cy] : List Value).toArray rfl rfl _ _ hz3 infoD14 rfl (by simp [Value.oneCell']) ?_))
  have hx3 : Ext w2 ((((w2.alloc (.cells zero17.toArray 34)).alloc (.cells zeroD.toArray 26)).setRow w2.heap.size (refLV A B C D c d a b r p).toArray).setRow (w2.heap.size + 1) ([.bool dd.neg, .slice X dd.int.length cx, .bool dd.sep, .slice Y dd.frac.length cy] : List Value).toArray) := Ext.setRow (Ext.setRow (Ext.alloc_ (Ext.alloc_ (Ext.refl _) _) _) (Nat.le_refl _) _) (Nat.le_succ _) _
  have hb3 : Box ((((w2.alloc (.cells zero17.toArray 34)).alloc (.cells zeroD.toArray 26)).setRow w2.heap.size (refLV A B C D c d a b r p).toArray).setRow (w2.heap.size + 1) ([.bool dd.neg, .slice X dd.int.length cx, .bool dd.sep, .slice Y dd.frac.length cy] : List Value).toArray) w2.heap.size 34 (refLV A B C D c d a b r p) := (hz1.set (refLV A B C D c d a b r p).toArray).other (by omega) _
  have hc3 : Box ((((w2.alloc (.cells zero17.toArray 34)).alloc (.cells zeroD.toArray 26)).setRow w2.heap.size (refLV A B C D c d a b r p).toArray).setRow (w2.heap.size + 1) ([.bool dd.neg, .slice X dd.int.length cx, .bool dd.sep, .slice Y dd.frac.length cy] : List Value).toArray) (w2.heap.size + 1) 26 [.bool dd.neg, .slice X dd.int.length cx, .bool dd.sep, .slice Y dd.frac.length cy] := hz3.set ([.bool dd.neg, .slice X dd.int.length cx, .bool dd.sep, .slice Y dd.frac.length cy] : List Value).toArray
  change Code.wp _ _ _ _ ((((w2.alloc (.cells zero17.toArray 34)).alloc (.cells zeroD.toArray 26)).setRow w2.heap.size (refLV A B C D c d a b r p).toArray).setRow (w2.heap.size + 1) ([.bool dd.neg, .slice X dd.int.length cx, .bool dd.sep, .slice Y dd.frac.length cy] : List Value).toArray)
  have HVW := Lib.hid (hvw.ext hx3)
  have HPT := Lib.hid (hpt.ext hx3)
  have HDR := Lib.hid (hdr.ext hx3)
  have HLR := Lib.hid (hLR.ext hx3)
  have HX3 := Lib.hid (HX1.out.trans (hx2.trans hx3))
  have HCAP := Lib.hid hcap
  have HOX := Lib.hid oX
  have HOY := Lib.hid oY
  generalize (((w2.alloc (.cells zero17.toArray 34)).alloc (.cells zeroD.toArray 26)).setRow w2.heap.size (refLV A B C D c d a b r p).toArray).setRow (w2.heap.size + 1) ([.bool dd.neg, .slice X dd.int.length cx, .bool dd.sep, .slice Y dd.frac.length cy] : List Value).toArray = w3 at *
  generalize w2.heap.size + 1 = db at *
  generalize w2.heap.size = lb at *
  have HLB := Lib.hid hb3
  have HDB := Lib.hid hc3
  have HRL : Hid (w3.rangeAt lb 0 [.string ⟨r.name.toArray⟩, .string ⟨r.pattern.toArray⟩, .string ⟨r.system.toArray⟩, .string ⟨r.decimal.toArray⟩, .string ⟨r.group.toArray⟩, .string ⟨r.minus.toArray⟩, .string ⟨r.percent.toArray⟩, .string ⟨r.currency.toArray⟩, .slice A p.pre.length c, .slice B p.suf.length d, .slice C p.npre.length a, .slice D p.nsuf.length b, .int .i64 p.num.prim, .int .i64 p.num.sec, .int .i64 p.num.minInt, .int .i64 p.num.minFrac, .int .i64 p.num.maxFrac]) := Lib.hid hb3.range
  have HRE : Hid (w3.rangeAt db 0 [.bool dd.neg, .slice X dd.int.length cx, .bool dd.sep, .slice Y dd.frac.length cy]) := Lib.hid hc3.range
  clear hz1 hz2 hz3 hb3 hc3 hx2 hx3 hvw hpt hcap hdr oX oY hLR HRG HRD HBG
  have HKN := Lib.hid HK.out.knd
  have HRST : Hid (∀ W, Ext w3 W → Calls Tryz.prog 31 #[.agg ([.string ⟨r.name.toArray⟩, .string ⟨r.pattern.toArray⟩, .string ⟨r.system.toArray⟩, .string ⟨r.decimal.toArray⟩, .string ⟨r.group.toArray⟩, .string ⟨r.minus.toArray⟩, .string ⟨r.percent.toArray⟩, .string ⟨r.currency.toArray⟩, .slice A p.pre.length c, .slice B p.suf.length d, .slice C p.npre.length a, .slice D p.nsuf.length b, .int .i64 p.num.prim, .int .i64 p.num.sec, .int .i64 p.num.minInt, .int .i64 p.num.minFrac, .int .i64 p.num.maxFrac] : List Value).toArray, .agg ([.bool dd.neg, .slice X dd.int.length cx, .bool dd.sep, .slice Y dd.frac.length cy] : List Value).toArray] W fun e w' => ∃ G c', e = .returned (.slice G (stopsP (itemsF (locOf r p) dd) (ahead (locOf r p) dd.neg).length).length c') ∧ Row w' G (natsV (stopsP (itemsF (locOf r p) dd) (ahead (locOf r p) dd.neg).length)) ∧ Ext W w') := Lib.hid fun W hW =>
    ref16_stops A B C D X Y c d a b cx cy dd r p W HKN.out (HPT.out.ext hW) HCAP.out (HDR.out.ext hW) HOX.out HOY.out HDO.out HDI.out HDF.out
  have HRIT : Hid (∀ W, Ext w3 W → Calls Tryz.prog 21 #[.agg ([.string ⟨r.name.toArray⟩, .string ⟨r.pattern.toArray⟩, .string ⟨r.system.toArray⟩, .string ⟨r.decimal.toArray⟩, .string ⟨r.group.toArray⟩, .string ⟨r.minus.toArray⟩, .string ⟨r.percent.toArray⟩, .string ⟨r.currency.toArray⟩, .slice A p.pre.length c, .slice B p.suf.length d, .slice C p.npre.length a, .slice D p.nsuf.length b, .int .i64 p.num.prim, .int .i64 p.num.sec, .int .i64 p.num.minInt, .int .i64 p.num.minFrac, .int .i64 p.num.maxFrac] : List Value).toArray, .agg ([.bool dd.neg, .slice X dd.int.length cx, .bool dd.sep, .slice Y dd.frac.length cy] : List Value).toArray] W fun e w' => ∃ F cF, e = .returned (.slice F (itemsF (locOf r p) dd).length cF) ∧ Row w' F (itsV (itemsF (locOf r p) dd)) ∧ Okc F cF ∧ (itemsF (locOf r p) dd).length ≤ cF ∧ Ext W w') := Lib.hid fun W hW =>
    (ref15_items A B C D X Y c d a b cx cy dd r p W HKN.out.both HKN.out.num (HPT.out.ext hW) HCAP.out (HDR.out.ext hW) HOX.out HOY.out HDO.out HDI.out HDF.out).mono fun e w' ⟨F, cF, h1, h2⟩ => ⟨F, cF, h1, h2.row, Acc.okc h2, h2.cap.1, h2.ext⟩
  generalize hL : itemsF (locOf r p) dd = L at *
  generalize hS : stopsP L (ahead (locOf r p) dd.neg).length = S at *
  have HL := Lib.hid hL
  clear hL hS
  have HRTX : Hid (∀ W F cF, Row W F (itsV L) → Calls Tryz.prog 25 #[.slice F L.length cF] W fun e w' => e = .returned (.string ⟨(textI L).toArray⟩) ∧ Ext W w') := Lib.hid fun W F cF hr => ref15_text F L.length cF L W hr rfl (by have := HIL.out.1; omega) HIL.out.2.1
  have HA1 : Hid (∀ W (o : Int), Ext w3 W → Calls Tryz.prog 40 #[.pointer (some ⟨vb, 0, none⟩), .int .i64 o] W fun e w' => e = .returned (.int .i64 (nearTo (intsN S) o S.length)) ∧ Ext W w') := Lib.hid fun W o hW => view_atom (HVW.out.ext hW) o (intsN_up HUP.out) (by have := HSN.out; omega)
  have HA2 : Hid (∀ W (o : Int) G cG, Row W G (natsV S) → Calls Tryz.prog 46 #[.slice G S.length cG, .int .i64 o] W fun e w' => e = .returned (.int .i64 (nearTo (intsN S) o S.length)) ∧ W = w') := Lib.hid fun W o G cG hr => ref16_atom G S.length cG S o W hr rfl (by have := HSN.out; omega)
  have HT1 : Hid (∀ W (o : Int), i64 o → Ext w3 W → Calls Tryz.prog 42 #[.pointer (some ⟨vb, 0, none⟩), .int .i64 o] W fun e w' => e = .returned (.int .i64 (tagF L o)) ∧ Ext W w') := Lib.hid fun W o ho hW => view_tag (HVW.out.ext hW) o ho (by have := HIL.out.1; omega) HIL.out.2.1
  have HT2 : Hid (∀ W (o : Int) F cF, Row W F (itsV L) → Okc F cF → L.length ≤ cF → Calls Tryz.prog 47 #[.slice F L.length cF, .int .i64 o] W fun e w' => e = .returned (.int .i64 (tagF L o)) ∧ Ext W w') := Lib.hid fun W o F cF hr ho hc => ref16_tag F L.length cF L o W hr ho rfl hc (by have := HIL.out.1; omega) HIL.out.2.1
  have HNB : Hid (∀ o : Int, (nearTo (intsN S) o S.length == nearTo (intsN S) o S.length) = true ∧ (nearTo (intsN S) o S.length != nearTo (intsN S) o S.length) = false) := Lib.hid fun o => by simp
  have HTB : Hid (∀ o : Int, (tagF L o == tagF L o) = true ∧ (tagF L o != tagF L o) = false) := Lib.hid fun o => by simp
  have htl := HIL.out.2.2
  generalize htx : textI L = TX at *
  have HTXE := Lib.hid htx
  clear htx
  have HDD := HDB
  go_upto_region 7 with (first
    | (refine wpList_load_mid rfl 34 (.tmp 10) rfl lb 0 rfl [.string ⟨r.name.toArray⟩, .string ⟨r.pattern.toArray⟩, .string ⟨r.system.toArray⟩, .string ⟨r.decimal.toArray⟩, .string ⟨r.group.toArray⟩, .string ⟨r.minus.toArray⟩, .string ⟨r.percent.toArray⟩, .string ⟨r.currency.toArray⟩, .slice A p.pre.length c, .slice B p.suf.length d, .slice C p.npre.length a, .slice D p.nsuf.length b, .int .i64 p.num.prim, .int .i64 p.num.sec, .int .i64 p.num.minInt, .int .i64 p.num.minFrac, .int .i64 p.num.maxFrac] _ HRL.out Tryz.underlying34 rfl infoRL ?_)
    | (refine wpList_load_mid rfl 26 (.tmp 11) rfl db 0 rfl [.bool dd.neg, .slice X dd.int.length cx, .bool dd.sep, .slice Y dd.frac.length cy] _ HRE.out Tryz.underlying26 rfl infoD14 ?_)
    | (go_at_call 31; with_reducible refine (HRST.out _ (Ext.refl _)).mono ?_; rintro e w4 ⟨G, cG, rfl, hrG, hx4⟩; have HRL := Lib.hid (Ext.range_ hx4 HRL.out); have HRE := Lib.hid (Ext.range_ hx4 HRE.out))
    | (go_at_call 21; with_reducible refine (HRIT.out _ hx4).mono ?_; rintro e w5 ⟨F2, cF2, rfl, hrF, oF, hcF, hx5⟩)
    | (go_at_call 25; with_reducible refine (HRTX.out _ _ _ hrF).mono ?_; rintro e w6 ⟨rfl, hx6⟩))
  have HRG := Lib.hid (hrG.below (hx5.trans hx6) (Nat.le_refl _))
  have HRF := Lib.hid (hrF.below hx6 (Nat.le_refl _))
  have HOF := Lib.hid oF
  have HCF := Lib.hid hcF
  have HX6 := Lib.hid (hx4.trans (hx5.trans hx6))
  clear hrG hrF oF hcF hx4 hx5 hx6 HRST HRIT HRTX
  generalize S.length = SN at *
  generalize L.length = LN at *
  go_upto_region 8 with fail
  go_wp2
  go_loopw [15] (fun i wr => ∃ m : Nat, m ≤ TX.length + 3 ∧ i = .int .i64 ((m : Int) - 1) ∧ Ext w6 wr) (fun i _ => TX.length + 3 - (intOf i + 1).toNat)
  case atStart => exact ⟨0, Nat.zero_le _, rfl, Ext.refl _⟩
  case round =>
    obtain ⟨m, hm, rfl, hx⟩ := hrel
    have HX := Lib.hid hx
    clear hx
    by_cases hlt : m ≤ TX.length + 2
    · have i1 : (m : Int) - 1 ≤ (TX.length : Int) + 1 := by omega
      have HA1X := Lib.hid (fun W hW => HA1.out W ((m : Int) - 1) (HX6.out.trans (HX.out.trans hW)))
      have HA2X := Lib.hid (fun W hW => HA2.out W ((m : Int) - 1) G cG (HRG.out.below (HX.out.trans hW) (Nat.le_refl _)))
      have HT1X := Lib.hid (fun W hW => HT1.out W ((m : Int) - 1) ⟨by omega, by omega⟩ (HX6.out.trans (HX.out.trans hW)))
      have HT2X := Lib.hid (fun W hW => HT2.out W ((m : Int) - 1) F2 cF2 (HRF.out.below (HX.out.trans hW) (Nat.le_refl _)) HOF.out HCF.out)
      obtain ⟨bn1, bn2⟩ := HNB.out ((m : Int) - 1)
      obtain ⟨bt1, bt2⟩ := HTB.out ((m : Int) - 1)
      generalize nearTo (intsN S) ((m : Int) - 1) SN = nz at *
      generalize tagF L ((m : Int) - 1) = tz at *
      go_wp2_with (first
        | (go_at_call 40; with_reducible refine (HA1X.out _ (Ext.refl _)).mono ?_; rintro e w7 ⟨rfl, hx7⟩)
        | (go_at_call 46; with_reducible refine (HA2X.out _ hx7).mono ?_; rintro e w8 ⟨rfl, rfl⟩)
        | (go_at_call 42; with_reducible refine (HT1X.out _ hx7).mono ?_; rintro e w9 ⟨rfl, hx9⟩)
        | (go_at_call 47; with_reducible refine (HT2X.out _ (hx7.trans hx9)).mono ?_; rintro e w10 ⟨rfl, hx10⟩))
      go_roundw
      case rel => exact ⟨m + 1, by omega, by go_num, HX.out.trans (hx7.trans (hx9.trans hx10))⟩
      case measure => simp [intOf]; omega
    · have i1 : ¬ ((m : Int) - 1 ≤ (TX.length : Int) + 1) := by omega
      have HA1X := Lib.hid (fun W hW => HA1.out W off (HX6.out.trans (HX.out.trans hW)))
      have HA2X := Lib.hid (fun W hW => HA2.out W off G cG (HRG.out.below (HX.out.trans hW) (Nat.le_refl _)))
      have HT1X := Lib.hid (fun W hW => HT1.out W off hoff (HX6.out.trans (HX.out.trans hW)))
      have HT2X := Lib.hid (fun W hW => HT2.out W off F2 cF2 (HRF.out.below (HX.out.trans hW) (Nat.le_refl _)) HOF.out HCF.out)
      have HLX := Lib.hid (fun W hW => HLV.out W (HX3.out.trans (HX6.out.trans (HX.out.trans hW))))
      obtain ⟨bn1, bn2⟩ := HNB.out off
      obtain ⟨bt1, bt2⟩ := HTB.out off
      generalize nearTo (intsN S) off SN = nz at *
      generalize tagF L off = tz at *
      go_wp2_with (first
        | (go_at_call 40; with_reducible refine (HA1X.out _ (Ext.refl _)).mono ?_; rintro e w7 ⟨rfl, hx7⟩)
        | (go_at_call 46; with_reducible refine (HA2X.out _ hx7).mono ?_; rintro e w8 ⟨rfl, rfl⟩)
        | (go_at_call 42; with_reducible refine (HT1X.out _ hx7).mono ?_; rintro e w9 ⟨rfl, hx9⟩)
        | (go_at_call 47; with_reducible refine (HT2X.out _ (hx7.trans hx9)).mono ?_; rintro e w10 ⟨rfl, hx10⟩)
        | (go_at_call 37; with_reducible refine (HLX.out _ (hx7.trans (hx9.trans hx10))).mono ?_; rintro e w11 ⟨rfl, hx11⟩))
      go_ret
      exact ⟨rfl, HX3.out.trans (HX6.out.trans (HX.out.trans (hx7.trans (hx9.trans (hx10.trans hx11)))))⟩
end Go.Proofs.YthoicieckodneaaGreatDoor.Loc
