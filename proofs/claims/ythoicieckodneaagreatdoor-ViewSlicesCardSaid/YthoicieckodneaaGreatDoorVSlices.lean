/- The law ViewSlices: the text between two stops is what stands there, or there is none. (Printed by wip/gen/law16.py.) -/
import Derived.Test.YthoicieckodneaaGreatDoorVwP5
import Derived.Test.YthoicieckodneaaGreatDoorVwW5
import Derived.Test.YthoicieckodneaaGreatDoorVwW3d
namespace Go.Proofs.YthoicieckodneaaGreatDoor.Loc
open Go.RowKit Utf All Small Strs Build EncC Pat Cls Dec Go.Proofs.YthoicieckodneaaGreatDoor.Sys
set_option linter.unusedVariables false
set_option linter.unusedSimpArgs false

set_option maxHeartbeats 16000000 in
set_option maxRecDepth 1000000 in
theorem law_ViewSlices (v0 v1 v2 v3 v4 v5 n : Int) (A0 B0 : Option Addr) (c0 e0 : Nat) (d0 : Dr) (i : Int) (j : Int) (w : World) (h0 : i64 v0) (h1 : i64 v1) (h2 : i64 v2) (h3 : i64 v3) (h4 : i64 v4) (h5 : i64 v5) (hn : i64 n) (hd : DrR w A0 B0 d0) (hi : DrI d0) (hi0 : i64 i) (hj0 : i64 j) (hT : Tabs w) :
    Calls Tryz.prog 9 #[.agg ([.int .i64 v0, .int .i64 v1, .int .i64 v2, .int .i64 v3, .int .i64 v4, .int .i64 v5] : List Value).toArray, .int .i64 n, .agg ([.bool d0.neg, .slice A0 d0.int.length c0, .bool d0.sep, .slice B0 d0.frac.length e0] : List Value).toArray, .int .i64 i, .int .i64 j] w fun e w' => e = .returned (.bool true) ∧ Below w.heap.size w w' := by
  obtain ⟨r, p, dd, hK, hdok, hdi, hdf, hBG⟩ := begin16 v0 v1 v2 v3 v4 v5 n A0 B0 c0 e0 d0 h0 h1 h2 h3 h4 h5 hn hi
  have HK := Lib.hid hK
  have HBG := Lib.hid hBG
  have HTW := Lib.hid hT
  have HDA := Lib.hid hd
  have HDO := Lib.hid hdok
  have HDI : Hid (dd.int.length ≤ 100) := Lib.hid (by omega)
  have HDF : Hid (dd.frac.length ≤ 100) := Lib.hid (by omega)
  have HIL := Lib.hid (items_le hK.both (d := dd) (by omega) (by omega))
  have HSN : Hid ((stopsP (itemsF (locOf r p) dd) (ahead (locOf r p) dd.neg).length).length = (atomsF dd).length + 1) := Lib.hid (stops_len hdok)
  have HUP := Lib.hid (stops_up hK.both hdok)
  have hal : (atomsF dd).length ≤ 19 := by rw [atoms_len]; split <;> omega
  have HLV : Hid (∀ W, Ext w W → Calls Tryz.prog 37 #[] W fun e w' => e = .returned (.bool true) ∧ Ext W w') := Lib.hid fun W hW => lives16 W (HTW.out.ext hW)
  have b1 := (Box.new w 23 [.int .i64 v0, .int .i64 v1, .int .i64 v2, .int .i64 v3, .int .i64 v4, .int .i64 v5]).alloc (.cells ([.bool d0.neg, .slice A0 d0.int.length c0, .bool d0.sep, .slice B0 d0.frac.length e0] : List Value).toArray 26)
  have c1 := Box.new (w.alloc (.cells ([.int .i64 v0, .int .i64 v1, .int .i64 v2, .int .i64 v3, .int .i64 v4, .int .i64 v5] : List Value).toArray 23)) 26 [.bool d0.neg, .slice A0 d0.int.length c0, .bool d0.sep, .slice B0 d0.frac.length e0]
  have hs1 : (w.alloc (.cells ([.int .i64 v0, .int .i64 v1, .int .i64 v2, .int .i64 v3, .int .i64 v4, .int .i64 v5] : List Value).toArray 23)).heap.size = w.heap.size + 1 := by simp
  rw [hs1] at c1
  have hx1 : Ext w ((w.alloc (.cells ([.int .i64 v0, .int .i64 v1, .int .i64 v2, .int .i64 v3, .int .i64 v4, .int .i64 v5] : List Value).toArray 23)).alloc (.cells ([.bool d0.neg, .slice A0 d0.int.length c0, .bool d0.sep, .slice B0 d0.frac.length e0] : List Value).toArray 26)) := Ext.alloc_ (Ext.alloc_ (Ext.refl w) _) _
  have HRG := Lib.hid b1.range
  have HRD := Lib.hid c1.range
  have HX1 := Lib.hid hx1
  clear hK hBG hd hi hT b1 c1 hs1 hx1 h0 h1 h2 h3 h4 h5 hn hdok
  go_enter Tryz.func9, Tryz.ntmps9
  go_upto_region 1 with fail
  change Code.wp _ _ _ _ ((w.alloc (.cells ([.int .i64 v0, .int .i64 v1, .int .i64 v2, .int .i64 v3, .int .i64 v4, .int .i64 v5] : List Value).toArray 23)).alloc (.cells ([.bool d0.neg, .slice A0 d0.int.length c0, .bool d0.sep, .slice B0 d0.frac.length e0] : List Value).toArray 26))
  generalize (w.alloc (.cells ([.int .i64 v0, .int .i64 v1, .int .i64 v2, .int .i64 v3, .int .i64 v4, .int .i64 v5] : List Value).toArray 23)).alloc (.cells ([.bool d0.neg, .slice A0 d0.int.length c0, .bool d0.sep, .slice B0 d0.frac.length e0] : List Value).toArray 26) = w1 at *
  generalize w.heap.size + 1 = db0 at *
  go_upto_region 2 with (first
    | (refine wpList_load_mid rfl 23 (.tmp 5) rfl w.heap.size 0 rfl [.int .i64 v0, .int .i64 v1, .int .i64 v2, .int .i64 v3, .int .i64 v4, .int .i64 v5] _ HRG.out Tryz.underlying23 rfl infoG ?_)
    | (refine wpList_load_mid rfl 26 (.tmp 7) rfl db0 0 rfl [.bool d0.neg, .slice A0 d0.int.length c0, .bool d0.sep, .slice B0 d0.frac.length e0] _ HRD.out Tryz.underlying26 rfl infoD14 ?_)
    | (go_at_call 30; with_reducible refine (HBG.out _ (HTW.out.ext HX1.out) (HDA.out.ext HX1.out)).mono ?_; rintro e w2 ⟨vb, E, cE, F, cF, A, B, C, D, c, d, a, b, X, Y, cx, cy, rfl, hvw, hpt, hcap, hdr, oX, oY, ⟨g, A', B', C', D', c', d', a', b', hLR⟩, hx2⟩; have hz1 := (Box.new w2 34 zero17).alloc (.cells zeroD.toArray 26); have hz2 := box_two w2 34 26 zero17 zeroD; have hz3 := hz2.other (k := w2.heap.size) (by omega) (refLV A B C D c d a b r p).toArray)
    | (refine wpList_store_row rfl 34 (.tmp 12) (.tmp 31) rfl w2.heap.size (refLV A B C D c d a b r p).toArray rfl rfl _ _ hz1 infoRL rfl (refL_one A B C D c d a b r p) ?_)
    | (refine wpList_store_row rfl 26 (.tmp 13) (.tmp 32) rfl (w2.heap.size + 1) ([.bool dd.neg, .slice X dd.int.length cx, .bool dd.sep, .slice Y dd.frac.length cy] : List Value).toArray rfl rfl _ _ hz3 infoD14 rfl (by simp [Value.oneCell']) ?_))
  have hx3 : Ext w2 ((((w2.alloc (.cells zero17.toArray 34)).alloc (.cells zeroD.toArray 26)).setRow w2.heap.size (refLV A B C D c d a b r p).toArray).setRow (w2.heap.size + 1) ([.bool dd.neg, .slice X dd.int.length cx, .bool dd.sep, .slice Y dd.frac.length cy] : List Value).toArray) := Ext.setRow (Ext.setRow (Ext.alloc_ (Ext.alloc_ (Ext.refl _) _) _) (Nat.le_refl _) _) (Nat.le_succ _) _
  have hb3 : Box ((((w2.alloc (.cells zero17.toArray 34)).alloc (.cells zeroD.toArray 26)).setRow w2.heap.size (refLV A B C D c d a b r p).toArray).setRow (w2.heap.size + 1) ([.bool dd.neg, .slice X dd.int.length cx, .bool dd.sep, .slice Y dd.frac.length cy] : List Value).toArray) w2.heap.size 34 (refLV A B C D c d a b r p) := (hz1.set (refLV A B C D c d a b r p).toArray).other (by omega) _
  have hc3 : Box ((((w2.alloc (.cells zero17.toArray 34)).alloc (.cells zeroD.toArray 26)).setRow w2.heap.size (refLV A B C D c d a b r p).toArray).setRow (w2.heap.size + 1) ([.bool dd.neg, .slice X dd.int.length cx, .bool dd.sep, .slice Y dd.frac.length cy] : List Value).toArray) (w2.heap.size + 1) 26 [.bool dd.neg, .slice X dd.int.length cx, .bool dd.sep, .slice Y dd.frac.length cy] := hz3.set ([.bool dd.neg, .slice X dd.int.length cx, .bool dd.sep, .slice Y dd.frac.length cy] : List Value).toArray
  change Code.wp _ _ _ _ ((((w2.alloc (.cells zero17.toArray 34)).alloc (.cells zeroD.toArray 26)).setRow w2.heap.size (refLV A B C D c d a b r p).toArray).setRow (w2.heap.size + 1) ([.bool dd.neg, .slice X dd.int.length cx, .bool dd.sep, .slice Y dd.frac.length cy] : List Value).toArray)
  have HVW := Lib.hid (hvw.ext hx3)
  have HPT := Lib.hid (hpt.ext hx3)
  have HDR := Lib.hid (hdr.ext hx3)
  have HLR := Lib.hid (hLR.ext hx3)
  have HX3 := Lib.hid (HX1.out.trans (hx2.trans hx3))
  have HCAP := Lib.hid hcap
  have HOX := Lib.hid oX
  have HOY := Lib.hid oY
  generalize (((w2.alloc (.cells zero17.toArray 34)).alloc (.cells zeroD.toArray 26)).setRow w2.heap.size (refLV A B C D c d a b r p).toArray).setRow (w2.heap.size + 1) ([.bool dd.neg, .slice X dd.int.length cx, .bool dd.sep, .slice Y dd.frac.length cy] : List Value).toArray = w3 at *
  generalize w2.heap.size + 1 = db at *
  generalize w2.heap.size = lb at *
  have HLB := Lib.hid hb3
  have HDB := Lib.hid hc3
  have HRL : Hid (w3.rangeAt lb 0 [.string ⟨r.name.toArray⟩, .string ⟨r.pattern.toArray⟩, .string ⟨r.system.toArray⟩, .string ⟨r.decimal.toArray⟩, .string ⟨r.group.toArray⟩, .string ⟨r.minus.toArray⟩, .string ⟨r.percent.toArray⟩, .string ⟨r.currency.toArray⟩, .slice A p.pre.length c, .slice B p.suf.length d, .slice C p.npre.length a, .slice D p.nsuf.length b, .int .i64 p.num.prim, .int .i64 p.num.sec, .int .i64 p.num.minInt, .int .i64 p.num.minFrac, .int .i64 p.num.maxFrac]) := Lib.hid hb3.range
  have HRE : Hid (w3.rangeAt db 0 [.bool dd.neg, .slice X dd.int.length cx, .bool dd.sep, .slice Y dd.frac.length cy]) := Lib.hid hc3.range
  clear hz1 hz2 hz3 hb3 hc3 hx2 hx3 hvw hpt hcap hdr oX oY hLR HRG HRD HBG
  have HKN := Lib.hid HK.out.knd
  have HRST : Hid (∀ W, Ext w3 W → Calls Tryz.prog 31 #[.agg ([.string ⟨r.name.toArray⟩, .string ⟨r.pattern.toArray⟩, .string ⟨r.system.toArray⟩, .string ⟨r.decimal.toArray⟩, .string ⟨r.group.toArray⟩, .string ⟨r.minus.toArray⟩, .string ⟨r.percent.toArray⟩, .string ⟨r.currency.toArray⟩, .slice A p.pre.length c, .slice B p.suf.length d, .slice C p.npre.length a, .slice D p.nsuf.length b, .int .i64 p.num.prim, .int .i64 p.num.sec, .int .i64 p.num.minInt, .int .i64 p.num.minFrac, .int .i64 p.num.maxFrac] : List Value).toArray, .agg ([.bool dd.neg, .slice X dd.int.length cx, .bool dd.sep, .slice Y dd.frac.length cy] : List Value).toArray] W fun e w' => ∃ G c', e = .returned (.slice G (stopsP (itemsF (locOf r p) dd) (ahead (locOf r p) dd.neg).length).length c') ∧ Row w' G (natsV (stopsP (itemsF (locOf r p) dd) (ahead (locOf r p) dd.neg).length)) ∧ Ext W w') := Lib.hid fun W hW =>
    ref16_stops A B C D X Y c d a b cx cy dd r p W HKN.out (HPT.out.ext hW) HCAP.out (HDR.out.ext hW) HOX.out HOY.out HDO.out HDI.out HDF.out
  have HRIT : Hid (∀ W, Ext w3 W → Calls Tryz.prog 21 #[.agg ([.string ⟨r.name.toArray⟩, .string ⟨r.pattern.toArray⟩, .string ⟨r.system.toArray⟩, .string ⟨r.decimal.toArray⟩, .string ⟨r.group.toArray⟩, .string ⟨r.minus.toArray⟩, .string ⟨r.percent.toArray⟩, .string ⟨r.currency.toArray⟩, .slice A p.pre.length c, .slice B p.suf.length d, .slice C p.npre.length a, .slice D p.nsuf.length b, .int .i64 p.num.prim, .int .i64 p.num.sec, .int .i64 p.num.minInt, .int .i64 p.num.minFrac, .int .i64 p.num.maxFrac] : List Value).toArray, .agg ([.bool dd.neg, .slice X dd.int.length cx, .bool dd.sep, .slice Y dd.frac.length cy] : List Value).toArray] W fun e w' => ∃ F cF, e = .returned (.slice F (itemsF (locOf r p) dd).length cF) ∧ Row w' F (itsV (itemsF (locOf r p) dd)) ∧ Okc F cF ∧ (itemsF (locOf r p) dd).length ≤ cF ∧ Ext W w') := Lib.hid fun W hW =>
    (ref15_items A B C D X Y c d a b cx cy dd r p W HKN.out.both HKN.out.num (HPT.out.ext hW) HCAP.out (HDR.out.ext hW) HOX.out HOY.out HDO.out HDI.out HDF.out).mono fun e w' ⟨F, cF, h1, h2⟩ => ⟨F, cF, h1, h2.row, Acc.okc h2, h2.cap.1, h2.ext⟩
  generalize hL : itemsF (locOf r p) dd = L at *
  generalize hS : stopsP L (ahead (locOf r p) dd.neg).length = S at *
  have HL := Lib.hid hL
  have HSB : Hid (∀ v ∈ S, v ≤ (textI L).length) := Lib.hid fun v hv => by
    have h1 := stops_le (r := r) (p := p) (d := dd) (v := v) (by rw [hL, hS]; exact hv)
    rwa [hL] at h1
  clear hL hS
  have HRTX : Hid (∀ W F cF, Row W F (itsV L) → Calls Tryz.prog 25 #[.slice F L.length cF] W fun e w' => e = .returned (.string ⟨(textI L).toArray⟩) ∧ Ext W w') := Lib.hid fun W F cF hr => ref15_text F L.length cF L W hr rfl (by have := HIL.out.1; omega) HIL.out.2.1
  have HAI : Hid (∀ W, Calls Tryz.prog 38 #[.int .i64 i, .int .i64 20] W fun e w' => e = .returned (.int .i64 (aroundF i 20)) ∧ W = w') := Lib.hid fun W => around _ _ W hi0.1 hi0.2 (by omega) (by omega)
  have HAJ : Hid (∀ W, Calls Tryz.prog 38 #[.int .i64 j, .int .i64 20] W fun e w' => e = .returned (.int .i64 (aroundF j 20)) ∧ W = w') := Lib.hid fun W => around _ _ W hj0.1 hj0.2 (by omega) (by omega)
  have hbi := aroundF_bd i 20 (by omega)
  have hbj := aroundF_bd j 20 (by omega)
  have hsn : S.length ≤ 20 := by have := HSN.out; omega
  have HIN : Hid (∀ W (a b : Nat), Ext w3 W → a ≤ b → b < S.length → Calls Tryz.prog 39 #[.pointer (some ⟨vb, 0, none⟩), .int .i64 (a : Int), .int .i64 (b : Int)] W fun e w' => e = .returned (.tuple #[.string ((⟨(textI L).toArray⟩ : ByteArray).extract (S.getD a 0) (S.getD b 0)), .bool true]) ∧ W = w') := Lib.hid fun W a b hW hab hb => by
    have h1 : S.getD a 0 ≤ S.getD b 0 := by
      rcases Nat.eq_or_lt_of_le hab with rfl | h
      · exact Nat.le_refl _
      · exact Nat.le_of_lt (pair_lt HUP.out h hb)
    exact view_slice_in (HVW.out.ext hW) a b hab hb (by omega) h1 (HSB.out _ (getD_mem hb))
  have HOUT : Hid (∀ W (a b : Int), Ext w3 W → i64 a → i64 b → ¬ (0 ≤ a ∧ a ≤ b ∧ b < S.length) → Calls Tryz.prog 39 #[.pointer (some ⟨vb, 0, none⟩), .int .i64 a, .int .i64 b] W fun e w' => e = .returned (.tuple #[.string ⟨#[]⟩, .bool false]) ∧ W = w') := Lib.hid fun W a b hW ha hb hno => view_slice_out (HVW.out.ext hW) a b ha hb hno
  go_upto_region 6 with (first
    | (refine wpList_load_mid rfl 34 (.tmp 12) rfl lb 0 rfl [.string ⟨r.name.toArray⟩, .string ⟨r.pattern.toArray⟩, .string ⟨r.system.toArray⟩, .string ⟨r.decimal.toArray⟩, .string ⟨r.group.toArray⟩, .string ⟨r.minus.toArray⟩, .string ⟨r.percent.toArray⟩, .string ⟨r.currency.toArray⟩, .slice A p.pre.length c, .slice B p.suf.length d, .slice C p.npre.length a, .slice D p.nsuf.length b, .int .i64 p.num.prim, .int .i64 p.num.sec, .int .i64 p.num.minInt, .int .i64 p.num.minFrac, .int .i64 p.num.maxFrac] _ HRL.out Tryz.underlying34 rfl infoRL ?_)
    | (refine wpList_load_mid rfl 26 (.tmp 13) rfl db 0 rfl [.bool dd.neg, .slice X dd.int.length cx, .bool dd.sep, .slice Y dd.frac.length cy] _ HRE.out Tryz.underlying26 rfl infoD14 ?_)
    | (go_at_call 31; with_reducible refine (HRST.out _ (Ext.refl _)).mono ?_; rintro e w4 ⟨G, cG, rfl, hrG, hx4⟩; have HRL := Lib.hid (Ext.range_ hx4 HRL.out); have HRE := Lib.hid (Ext.range_ hx4 HRE.out))
    | (go_at_call 21; with_reducible refine (HRIT.out _ hx4).mono ?_; rintro e w5 ⟨F2, cF2, rfl, hrF, oF, hcF, hx5⟩)
    | (go_at_call 25; with_reducible refine (HRTX.out _ _ _ hrF).mono ?_; rintro e w6 ⟨rfl, hx6⟩))
  have HX6 := Lib.hid (hx4.trans (hx5.trans hx6))
  have HRG6 := Lib.hid (hrG.below (hx5.trans hx6) (Nat.le_refl _))
  clear hrG hrF oF hcF hx4 hx5 hx6 HRST HRIT HRTX
  generalize hS3 : (⟨(textI L).toArray⟩ : ByteArray) = TX at *
  have HTS : Hid (∀ v ∈ S, v ≤ TX.size) := Lib.hid fun v hv => by rw [← hS3]; exact HSB.out v hv
  clear hS3
  generalize aroundF i 20 = ai at *
  generalize aroundF j 20 = aj at *
  go_upto_region 7 with (first
    | (go_at_call 38; with_reducible refine (HAI.out _).mono ?_; rintro e w7 ⟨rfl, rfl⟩)
    | (go_at_call 38; with_reducible refine (HAJ.out _).mono ?_; rintro e w7 ⟨rfl, rfl⟩))
  have hb8 := Box.new w6 3 [.int .i64 i, .int .i64 ai, .int .i64 (min ai aj)]
  have hx8 : Ext w6 (w6.alloc (.cells ([.int .i64 i, .int .i64 ai, .int .i64 (min ai aj)] : List Value).toArray 3)) := Ext.alloc_ (Ext.refl _) _
  generalize w6.alloc (.cells ([.int .i64 i, .int .i64 ai, .int .i64 (min ai aj)] : List Value).toArray 3) = w8 at *
  generalize w6.heap.size = bi at *
  have HB8 := Lib.hid hb8
  have HX8 := Lib.hid (HX6.out.trans hx8)
  have HRG8 := Lib.hid (HRG6.out.below hx8 (Nat.le_refl _))
  clear hb8 hx8 HRG6
  go_upto_region 8 with (first
    | (go_at_call 38; with_reducible refine (HAI.out _).mono ?_; rintro e w7 ⟨rfl, rfl⟩)
    | (go_at_call 38; with_reducible refine (HAJ.out _).mono ?_; rintro e w7 ⟨rfl, rfl⟩))
  have hb9 := Box.new w8 3 [.int .i64 j, .int .i64 aj, .int .i64 (max ai aj)]
  have hx9 : Ext w8 (w8.alloc (.cells ([.int .i64 j, .int .i64 aj, .int .i64 (max ai aj)] : List Value).toArray 3)) := Ext.alloc_ (Ext.refl _) _
  generalize w8.alloc (.cells ([.int .i64 j, .int .i64 aj, .int .i64 (max ai aj)] : List Value).toArray 3) = w9 at *
  generalize w8.heap.size = bj at *
  have HRI : Hid (Row w9 (some ⟨bi, 0, none⟩) (([i, ai, min ai aj] : List Int).map (Value.int .i64))) := Lib.hid (HB8.out.ext hx9).row
  have HRJ : Hid (Row w9 (some ⟨bj, 0, none⟩) (([j, aj, max ai aj] : List Int).map (Value.int .i64))) := Lib.hid hb9.row
  have HII : Hid (∀ m, m < 3 → i64 (([i, ai, min ai aj] : List Int).getD m 0)) := Lib.hid fun m hm => by
    match m, hm with
    | 0, _ => exact hi0
    | 1, _ => exact ⟨by show -9223372036854775808 ≤ ai; omega, by show ai ≤ 9223372036854775807; omega⟩
    | 2, _ => exact ⟨by show -9223372036854775808 ≤ min ai aj; omega, by show min ai aj ≤ 9223372036854775807; omega⟩
  have HIJ : Hid (∀ m, m < 3 → i64 (([j, aj, max ai aj] : List Int).getD m 0)) := Lib.hid fun m hm => by
    match m, hm with
    | 0, _ => exact hj0
    | 1, _ => exact ⟨by show -9223372036854775808 ≤ aj; omega, by show aj ≤ 9223372036854775807; omega⟩
    | 2, _ => exact ⟨by show -9223372036854775808 ≤ max ai aj; omega, by show max ai aj ≤ 9223372036854775807; omega⟩
  have HI3 : Hid (([i, ai, min ai aj] : List Int).length = 3) := Lib.hid rfl
  have HJ3 : Hid (([j, aj, max ai aj] : List Int).length = 3) := Lib.hid rfl
  have HX9 := Lib.hid (HX8.out.trans hx9)
  have HRG9 := Lib.hid (HRG8.out.below hx9 (Nat.le_refl _))
  clear hb9 hx9 HB8 HRG8 hbi hbj HAI HAJ
  generalize ([i, ai, min ai aj] : List Int) = IS at *
  generalize ([j, aj, max ai aj] : List Int) = JS at *
  go_upto_region 9 with fail
  go_wp2
  go_loopw [18, 19, 20, 21, 22, 23, 24] (fun k _ _ _ _ _ _ wr => ∃ m : Nat, m ≤ 3 ∧ k = .int .i64 m ∧ Ext w9 wr) (fun k _ _ _ _ _ _ _ => 3 - (intOf k).toNat)
  case atStart => exact ⟨0, Nat.zero_le _, rfl, Ext.refl _⟩
  case round =>
    obtain ⟨m, hm, rfl, hx⟩ := hrel
    have HX := Lib.hid hx
    by_cases hlt : m < 3
    · have ha64 := HII.out m hlt
      have hb64 := HIJ.out m hlt
      have c1 := (HRI.out.below hx (Nat.le_refl _)).cell00 (k := m) (v := .int .i64 (IS.getD m 0)) (by rw [List.getElem?_map, List.getElem?_eq_getElem (by rw [HI3.out]; exact hlt), List.getD_eq_getElem?_getD, List.getElem?_eq_getElem (by rw [HI3.out]; exact hlt)]; rfl)
      have c2 := (HRJ.out.below hx (Nat.le_refl _)).cell00 (k := m) (v := .int .i64 (JS.getD m 0)) (by rw [List.getElem?_map, List.getElem?_eq_getElem (by rw [HJ3.out]; exact hlt), List.getD_eq_getElem?_getD, List.getElem?_eq_getElem (by rw [HJ3.out]; exact hlt)]; rfl)
      generalize IS.getD m 0 = a1 at *
      generalize JS.getD m 0 = b1 at *
      have j1 : (m : Int) < 3 := by omega
      have j2 : (0 : Int) ≤ (m : Int) := by omega
      by_cases hin : 0 ≤ a1 ∧ a1 ≤ b1 ∧ b1 < (S.length : Int)
      · obtain ⟨x, rfl⟩ := Int.eq_ofNat_of_zero_le hin.1
        obtain ⟨y, rfl⟩ := Int.eq_ofNat_of_zero_le (by omega : 0 ≤ b1)
        have hxy : x ≤ y := by omega
        have hys : y < S.length := by omega
        have HSL := Lib.hid (fun W hW => HIN.out W x y (HX9.out.trans (HX.out.trans hW)) hxy hys)
        have hrw := HRG9.out.below hx (Nat.le_refl _)
        obtain ⟨gb, go, rfl, g1⟩ := nats_row hrw (show x < S.length by omega)
        have g2 : wr.cell? ⟨gb, go + y, none⟩ = some (.int .i64 ((S.getD y 0 : Nat) : Int)) := by
          rw [nats_ints] at hrw
          have hh := row_cell hrw (k := y) (by rw [intsN_len]; exact hys)
          rwa [intsN_at] at hh
        have hle : S.getD x 0 ≤ S.getD y 0 := by
          rcases Nat.eq_or_lt_of_le hxy with rfl | h
          · exact Nat.le_refl _
          · exact Nat.le_of_lt (pair_lt HUP.out h hys)
        have hle2 := HTS.out _ (getD_mem hys)
        generalize S.getD x 0 = sx at *
        generalize S.getD y 0 = sy at *
        have k1 : (x : Int) ≥ 0 := by omega
        have k2 : (x : Int) ≤ (y : Int) := by omega
        have k3 : (y : Int) < (S.length : Int) := by omega
        have k4 : (x : Int) < (S.length : Int) := by omega
        have k5 : (0 : Int) ≤ (x : Int) := by omega
        have k6 : (0 : Int) ≤ (y : Int) := by omega
        have k7 : (sx : Int) ≤ (sy : Int) := by omega
        have k8 : (sy : Int) ≤ (TX.size : Int) := by omega
        have k9 : (0 : Int) ≤ (sx : Int) := by omega
        clear hx hrw hin hxy hys ha64 hb64
        go_upto_region 16 with fail
        refine wp_region_noPanic ?_
        refine wp_region_held_drew (S := fun W => Ext wr W ∧ W.cell? ⟨gb, go + x, none⟩ = some (.int .i64 (sx : Int)) ∧ W.cell? ⟨gb, go + y, none⟩ = some (.int .i64 (sy : Int))) (by kernel_rfl) ?_ (fun hHeld => ?_)
        · exact ⟨Ext.drew_ (Ext.refl _), g1, g2⟩
        refine take_ 0 (v := ?_) rfl (by kernel_rfl) (by kernel_rfl) (by kernel_rfl) (fun _ _ _ h => h) hHeld (by rfl) ?_ ?_
        rotate_left 1
        · (intro w hSw; (try dsimp only at hSw); go_simp; all_goals with_reducible rfl)
        try simp only [Act.put, List.setIfInBounds_toArray, List.set_cons_zero, List.set_cons_succ]
        refine take_ 1 (v := ?_) rfl (by kernel_rfl) (by kernel_rfl) (by kernel_rfl) (fun _ _ _ h => h) hHeld (by rfl) ?_ ?_
        rotate_left 1
        · (intro w hSw; (try dsimp only at hSw); go_simp; all_goals with_reducible rfl)
        try simp only [Act.put, List.setIfInBounds_toArray, List.set_cons_zero, List.set_cons_succ]
        refine take_ 2 (v := ?_) rfl (by kernel_rfl) (by kernel_rfl) (by kernel_rfl) (fun _ _ _ h => h) hHeld (by rfl) ?_ ?_
        rotate_left 1
        · (intro w hSw; (try dsimp only at hSw); go_simp; all_goals with_reducible rfl)
        try simp only [Act.put, List.setIfInBounds_toArray, List.set_cons_zero, List.set_cons_succ]
        refine take_ 3 (v := ?_) rfl (by kernel_rfl) (by kernel_rfl) (by kernel_rfl) (fun _ _ _ h => h) hHeld (by rfl) ?_ ?_
        rotate_left 1
        · (intro w hSw; (try dsimp only at hSw); go_simp; all_goals with_reducible rfl)
        try simp only [Act.put, List.setIfInBounds_toArray, List.set_cons_zero, List.set_cons_succ]
        refine take_ 4 (v := ?_) rfl (by kernel_rfl) (by kernel_rfl) (by kernel_rfl) (fun _ _ _ h => h) hHeld (by rfl) ?_ ?_
        rotate_left 1
        · (intro w hSw; (try dsimp only at hSw); go_simp; all_goals with_reducible rfl)
        try simp only [Act.put, List.setIfInBounds_toArray, List.set_cons_zero, List.set_cons_succ]
        refine take_ 5 (v := ?_) rfl (by kernel_rfl) (by kernel_rfl) (by kernel_rfl) (fun _ _ _ h => h) hHeld (by rfl) ?_ ?_
        rotate_left 1
        · (intro w hSw; (try dsimp only at hSw); go_simp; all_goals with_reducible rfl)
        try simp only [Act.put, List.setIfInBounds_toArray, List.set_cons_zero, List.set_cons_succ]
        refine take_ 6 (v := ?_) rfl (by kernel_rfl) (by kernel_rfl) (by kernel_rfl) (fun _ _ _ h => h) hHeld (by rfl) ?_ ?_
        rotate_left 1
        · (intro w hSw; (try dsimp only at hSw); go_simp; all_goals with_reducible rfl)
        try simp only [Act.put, List.setIfInBounds_toArray, List.set_cons_zero, List.set_cons_succ]
        refine take_ 7 (v := ?_) rfl (by kernel_rfl) (by kernel_rfl) (by kernel_rfl) (fun _ _ _ h => h) hHeld (by rfl) ?_ ?_
        rotate_left 1
        · (intro w hSw; (try dsimp only at hSw); go_simp; all_goals with_reducible rfl)
        try simp only [Act.put, List.setIfInBounds_toArray, List.set_cons_zero, List.set_cons_succ]
        refine take_ 8 (v := ?_) rfl (by kernel_rfl) (by kernel_rfl) (by kernel_rfl) (fun _ _ _ h => h) hHeld (by rfl) ?_ ?_
        rotate_left 1
        · (intro w hSw; (try dsimp only at hSw); go_simp; all_goals with_reducible rfl)
        try simp only [Act.put, List.setIfInBounds_toArray, List.set_cons_zero, List.set_cons_succ]
        refine take_ 9 (v := ?_) rfl (by kernel_rfl) (by kernel_rfl) (by kernel_rfl) (fun _ _ _ h => h) hHeld (by rfl) ?_ ?_
        rotate_left 1
        · (intro w hSw; (try dsimp only at hSw); go_simp; all_goals with_reducible rfl)
        try simp only [Act.put, List.setIfInBounds_toArray, List.set_cons_zero, List.set_cons_succ]
        refine take_ 10 (v := ?_) rfl (by kernel_rfl) (by kernel_rfl) (by kernel_rfl) (fun _ _ _ h => h) hHeld (by rfl) ?_ ?_
        rotate_left 1
        · (intro w hSw; (try dsimp only at hSw); go_simp; all_goals with_reducible rfl)
        try simp only [Act.put, List.setIfInBounds_toArray, List.set_cons_zero, List.set_cons_succ]
        refine wpAnyH_done (by kernel_rfl) ?_ _
        refine NoPanic.normal ?_
        have HH := Lib.hid hHeld.1
        clear hHeld
        go_wp2_with (go_at_call 39; with_reducible refine (HSL.out _ HH.out).mono ?_; rintro e w10 ⟨rfl, rfl⟩)
        go_roundw
        case rel => exact ⟨m + 1, by omega, by go_num, HX.out.trans HH.out⟩
        case measure => simp [intOf]; omega
      · have HSL := Lib.hid (fun W hW => HOUT.out W a1 b1 (HX9.out.trans (HX.out.trans hW)) ha64 hb64 hin)
        clear hx
        by_cases h1 : a1 ≥ 0
        · by_cases h2 : a1 ≤ b1
          · have h3 : ¬ (b1 < (S.length : Int)) := fun h => hin ⟨h1, h2, h⟩
            clear hin
            go_wp2_with (go_at_call 39; with_reducible refine (HSL.out _ (Ext.refl _)).mono ?_; rintro e w10 ⟨rfl, rfl⟩)
            go_roundw
            case rel => exact ⟨m + 1, by omega, by go_num, HX.out⟩
            case measure => simp [intOf]; omega
          · clear hin
            go_wp2_with (go_at_call 39; with_reducible refine (HSL.out _ (Ext.refl _)).mono ?_; rintro e w10 ⟨rfl, rfl⟩)
            go_roundw
            case rel => exact ⟨m + 1, by omega, by go_num, HX.out⟩
            case measure => simp [intOf]; omega
        · clear hin
          go_wp2_with (go_at_call 39; with_reducible refine (HSL.out _ (Ext.refl _)).mono ?_; rintro e w10 ⟨rfl, rfl⟩)
          go_roundw
          case rel => exact ⟨m + 1, by omega, by go_num, HX.out⟩
          case measure => simp [intOf]; omega
    · have j1 : ¬ ((m : Int) < 3) := by omega
      clear hx
      go_wp2_with (go_at_call 37; with_reducible refine (HLV.out _ (HX3.out.trans (HX9.out.trans HX.out))).mono ?_; rintro e w10 ⟨rfl, hx10⟩)
      go_ret
      exact ⟨rfl, HX3.out.trans (HX9.out.trans (HX.out.trans hx10))⟩
end Go.Proofs.YthoicieckodneaaGreatDoor.Loc
