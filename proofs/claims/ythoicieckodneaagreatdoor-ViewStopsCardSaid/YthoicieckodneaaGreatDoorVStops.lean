/- The law ViewStops: all stops, each one's, and the text, are the document's. (Printed by wip/gen/law16.py.) -/
import Derived.Test.YthoicieckodneaaGreatDoorVwP5
import Derived.Test.YthoicieckodneaaGreatDoorVwW5
namespace Go.Proofs.YthoicieckodneaaGreatDoor.Loc
open Go.RowKit Utf All Small Strs Build EncC Pat Cls Dec Go.Proofs.YthoicieckodneaaGreatDoor.Sys
set_option linter.unusedVariables false
set_option linter.unusedSimpArgs false

set_option maxHeartbeats 16000000 in
set_option maxRecDepth 1000000 in
theorem law_ViewStops (v0 v1 v2 v3 v4 v5 n : Int) (A0 B0 : Option Addr) (c0 e0 : Nat) (d0 : Dr) (k : Int) (w : World) (h0 : i64 v0) (h1 : i64 v1) (h2 : i64 v2) (h3 : i64 v3) (h4 : i64 v4) (h5 : i64 v5) (hn : i64 n) (hd : DrR w A0 B0 d0) (hi : DrI d0) (hk : i64 k) (hT : Tabs w) :
    Calls Tryz.prog 8 #[.agg ([.int .i64 v0, .int .i64 v1, .int .i64 v2, .int .i64 v3, .int .i64 v4, .int .i64 v5] : List Value).toArray, .int .i64 n, .agg ([.bool d0.neg, .slice A0 d0.int.length c0, .bool d0.sep, .slice B0 d0.frac.length e0] : List Value).toArray, .int .i64 k] w fun e w' => e = .returned (.bool true) ∧ Below w.heap.size w w' := by
  obtain ⟨r, p, dd, hK, hdok, hdi, hdf, hBG⟩ := begin16 v0 v1 v2 v3 v4 v5 n A0 B0 c0 e0 d0 h0 h1 h2 h3 h4 h5 hn hi
  have HK := Lib.hid hK
  have HBG := Lib.hid hBG
  have HTW := Lib.hid hT
  have HDA := Lib.hid hd
  have HDO := Lib.hid hdok
  have HDI : Hid (dd.int.length ≤ 100) := Lib.hid (by omega)
  have HDF : Hid (dd.frac.length ≤ 100) := Lib.hid (by omega)
  have HIL := Lib.hid (items_le hK.both (d := dd) (by omega) (by omega))
  have HSN : Hid ((stopsP (itemsF (locOf r p) dd) (ahead (locOf r p) dd.neg).length).length = (atomsF dd).length + 1) := Lib.hid (stops_len hdok)
  have HUP := Lib.hid (stops_up hK.both hdok)
  have hal : (atomsF dd).length ≤ 19 := by rw [atoms_len]; split <;> omega
  have HLV : Hid (∀ W, Ext w W → Calls Tryz.prog 37 #[] W fun e w' => e = .returned (.bool true) ∧ Ext W w') := Lib.hid fun W hW => lives16 W (HTW.out.ext hW)
  have b1 := (Box.new w 23 [.int .i64 v0, .int .i64 v1, .int .i64 v2, .int .i64 v3, .int .i64 v4, .int .i64 v5]).alloc (.cells ([.bool d0.neg, .slice A0 d0.int.length c0, .bool d0.sep, .slice B0 d0.frac.length e0] : List Value).toArray 26)
  have c1 := Box.new (w.alloc (.cells ([.int .i64 v0, .int .i64 v1, .int .i64 v2, .int .i64 v3, .int .i64 v4, .int .i64 v5] : List Value).toArray 23)) 26 [.bool d0.neg, .slice A0 d0.int.length c0, .bool d0.sep, .slice B0 d0.frac.length e0]
  have hs1 : (w.alloc (.cells ([.int .i64 v0, .int .i64 v1, .int .i64 v2, .int .i64 v3, .int .i64 v4, .int .i64 v5] : List Value).toArray 23)).heap.size = w.heap.size + 1 := by simp
  rw [hs1] at c1
  have hx1 : Ext w ((w.alloc (.cells ([.int .i64 v0, .int .i64 v1, .int .i64 v2, .int .i64 v3, .int .i64 v4, .int .i64 v5] : List Value).toArray 23)).alloc (.cells ([.bool d0.neg, .slice A0 d0.int.length c0, .bool d0.sep, .slice B0 d0.frac.length e0] : List Value).toArray 26)) := Ext.alloc_ (Ext.alloc_ (Ext.refl w) _) _
  have HRG := Lib.hid b1.range
  have HRD := Lib.hid c1.range
  have HX1 := Lib.hid hx1
  clear hK hBG hd hi hT b1 c1 hs1 hx1 h0 h1 h2 h3 h4 h5 hn hdok
  go_enter Tryz.func8, Tryz.ntmps8
  go_upto_region 1 with fail
  change Code.wp _ _ _ _ ((w.alloc (.cells ([.int .i64 v0, .int .i64 v1, .int .i64 v2, .int .i64 v3, .int .i64 v4, .int .i64 v5] : List Value).toArray 23)).alloc (.cells ([.bool d0.neg, .slice A0 d0.int.length c0, .bool d0.sep, .slice B0 d0.frac.length e0] : List Value).toArray 26))
  generalize (w.alloc (.cells ([.int .i64 v0, .int .i64 v1, .int .i64 v2, .int .i64 v3, .int .i64 v4, .int .i64 v5] : List Value).toArray 23)).alloc (.cells ([.bool d0.neg, .slice A0 d0.int.length c0, .bool d0.sep, .slice B0 d0.frac.length e0] : List Value).toArray 26) = w1 at *
  generalize w.heap.size + 1 = db0 at *
  go_upto_region 2 with (first
    | (refine wpList_load_mid rfl 23 (.tmp 4) rfl w.heap.size 0 rfl [.int .i64 v0, .int .i64 v1, .int .i64 v2, .int .i64 v3, .int .i64 v4, .int .i64 v5] _ HRG.out Tryz.underlying23 rfl infoG ?_)
    | (refine wpList_load_mid rfl 26 (.tmp 6) rfl db0 0 rfl [.bool d0.neg, .slice A0 d0.int.length c0, .bool d0.sep, .slice B0 d0.frac.length e0] _ HRD.out Tryz.underlying26 rfl infoD14 ?_)
    | (go_at_call 30; with_reducible refine (HBG.out _ (HTW.out.ext HX1.out) (HDA.out.ext HX1.out)).mono ?_; rintro e w2 ⟨vb, E, cE, F, cF, A, B, C, D, c, d, a, b, X, Y, cx, cy, rfl, hvw, hpt, hcap, hdr, oX, oY, ⟨g, A', B', C', D', c', d', a', b', hLR⟩, hx2⟩; have hz1 := (Box.new w2 34 zero17).alloc (.cells zeroD.toArray 26); have hz2 := box_two w2 34 26 zero17 zeroD; have hz3 := hz2.other (k := w2.heap.size) (by omega) (refLV A B C D c d a b r p).toArray)
    | (refine wpList_store_row rfl 34 (.tmp 10) (.tmp 25) rfl w2.heap.size (refLV A B C D c d a b r p).toArray rfl rfl _ _ hz1 infoRL rfl (refL_one A B C D c d a b r p) ?_)
    | (refine wpList_store_row rfl 26 (.tmp 11) (.tmp 26) rfl (w2.heap.size + 1) ([.bool dd.neg, .slice X dd.int.length cx, .bool dd.sep, .slice Y dd.frac.length cy] : List Value).toArray rfl rfl _ _ hz3 infoD14 rfl (by simp [Value.oneCell']) ?_))
  have hx3 : Ext w2 ((((w2.alloc (.cells zero17.toArray 34)).alloc (.cells zeroD.toArray 26)).setRow w2.heap.size (refLV A B C D c d a b r p).toArray).setRow (w2.heap.size + 1) ([.bool dd.neg, .slice X dd.int.length cx, .bool dd.sep, .slice Y dd.frac.length cy] : List Value).toArray) := Ext.setRow (Ext.setRow (Ext.alloc_ (Ext.alloc_ (Ext.refl _) _) _) (Nat.le_refl _) _) (Nat.le_succ _) _
  have hb3 : Box ((((w2.alloc (.cells zero17.toArray 34)).alloc (.cells zeroD.toArray 26)).setRow w2.heap.size (refLV A B C D c d a b r p).toArray).setRow (w2.heap.size + 1) ([.bool dd.neg, .slice X dd.int.length cx, .bool dd.sep, .slice Y dd.frac.length cy] : List Value).toArray) w2.heap.size 34 (refLV A B C D c d a b r p) := (hz1.set (refLV A B C D c d a b r p).toArray).other (by omega) _
  have hc3 : Box ((((w2.alloc (.cells zero17.toArray 34)).alloc (.cells zeroD.toArray 26)).setRow w2.heap.size (refLV A B C D c d a b r p).toArray).setRow (w2.heap.size + 1) ([.bool dd.neg, .slice X dd.int.length cx, .bool dd.sep, .slice Y dd.frac.length cy] : List Value).toArray) (w2.heap.size + 1) 26 [.bool dd.neg, .slice X dd.int.length cx, .bool dd.sep, .slice Y dd.frac.length cy] := hz3.set ([.bool dd.neg, .slice X dd.int.length cx, .bool dd.sep, .slice Y dd.frac.length cy] : List Value).toArray
  change Code.wp _ _ _ _ ((((w2.alloc (.cells zero17.toArray 34)).alloc (.cells zeroD.toArray 26)).setRow w2.heap.size (refLV A B C D c d a b r p).toArray).setRow (w2.heap.size + 1) ([.bool dd.neg, .slice X dd.int.length cx, .bool dd.sep, .slice Y dd.frac.length cy] : List Value).toArray)
  have HVW := Lib.hid (hvw.ext hx3)
  have HPT := Lib.hid (hpt.ext hx3)
  have HDR := Lib.hid (hdr.ext hx3)
  have HLR := Lib.hid (hLR.ext hx3)
  have HX3 := Lib.hid (HX1.out.trans (hx2.trans hx3))
  have HCAP := Lib.hid hcap
  have HOX := Lib.hid oX
  have HOY := Lib.hid oY
  generalize (((w2.alloc (.cells zero17.toArray 34)).alloc (.cells zeroD.toArray 26)).setRow w2.heap.size (refLV A B C D c d a b r p).toArray).setRow (w2.heap.size + 1) ([.bool dd.neg, .slice X dd.int.length cx, .bool dd.sep, .slice Y dd.frac.length cy] : List Value).toArray = w3 at *
  generalize w2.heap.size + 1 = db at *
  generalize w2.heap.size = lb at *
  have HLB := Lib.hid hb3
  have HDB := Lib.hid hc3
  have HRL : Hid (w3.rangeAt lb 0 [.string ⟨r.name.toArray⟩, .string ⟨r.pattern.toArray⟩, .string ⟨r.system.toArray⟩, .string ⟨r.decimal.toArray⟩, .string ⟨r.group.toArray⟩, .string ⟨r.minus.toArray⟩, .string ⟨r.percent.toArray⟩, .string ⟨r.currency.toArray⟩, .slice A p.pre.length c, .slice B p.suf.length d, .slice C p.npre.length a, .slice D p.nsuf.length b, .int .i64 p.num.prim, .int .i64 p.num.sec, .int .i64 p.num.minInt, .int .i64 p.num.minFrac, .int .i64 p.num.maxFrac]) := Lib.hid hb3.range
  have HRE : Hid (w3.rangeAt db 0 [.bool dd.neg, .slice X dd.int.length cx, .bool dd.sep, .slice Y dd.frac.length cy]) := Lib.hid hc3.range
  clear hz1 hz2 hz3 hb3 hc3 hx2 hx3 hvw hpt hcap hdr oX oY hLR HRG HRD HBG
  have HKN := Lib.hid HK.out.knd
  have HRST : Hid (∀ W, Ext w3 W → Calls Tryz.prog 31 #[.agg ([.string ⟨r.name.toArray⟩, .string ⟨r.pattern.toArray⟩, .string ⟨r.system.toArray⟩, .string ⟨r.decimal.toArray⟩, .string ⟨r.group.toArray⟩, .string ⟨r.minus.toArray⟩, .string ⟨r.percent.toArray⟩, .string ⟨r.currency.toArray⟩, .slice A p.pre.length c, .slice B p.suf.length d, .slice C p.npre.length a, .slice D p.nsuf.length b, .int .i64 p.num.prim, .int .i64 p.num.sec, .int .i64 p.num.minInt, .int .i64 p.num.minFrac, .int .i64 p.num.maxFrac] : List Value).toArray, .agg ([.bool dd.neg, .slice X dd.int.length cx, .bool dd.sep, .slice Y dd.frac.length cy] : List Value).toArray] W fun e w' => ∃ G c', e = .returned (.slice G (stopsP (itemsF (locOf r p) dd) (ahead (locOf r p) dd.neg).length).length c') ∧ Row w' G (natsV (stopsP (itemsF (locOf r p) dd) (ahead (locOf r p) dd.neg).length)) ∧ Ext W w') := Lib.hid fun W hW =>
    ref16_stops A B C D X Y c d a b cx cy dd r p W HKN.out (HPT.out.ext hW) HCAP.out (HDR.out.ext hW) HOX.out HOY.out HDO.out HDI.out HDF.out
  have HRIT : Hid (∀ W, Ext w3 W → Calls Tryz.prog 21 #[.agg ([.string ⟨r.name.toArray⟩, .string ⟨r.pattern.toArray⟩, .string ⟨r.system.toArray⟩, .string ⟨r.decimal.toArray⟩, .string ⟨r.group.toArray⟩, .string ⟨r.minus.toArray⟩, .string ⟨r.percent.toArray⟩, .string ⟨r.currency.toArray⟩, .slice A p.pre.length c, .slice B p.suf.length d, .slice C p.npre.length a, .slice D p.nsuf.length b, .int .i64 p.num.prim, .int .i64 p.num.sec, .int .i64 p.num.minInt, .int .i64 p.num.minFrac, .int .i64 p.num.maxFrac] : List Value).toArray, .agg ([.bool dd.neg, .slice X dd.int.length cx, .bool dd.sep, .slice Y dd.frac.length cy] : List Value).toArray] W fun e w' => ∃ F cF, e = .returned (.slice F (itemsF (locOf r p) dd).length cF) ∧ Row w' F (itsV (itemsF (locOf r p) dd)) ∧ Okc F cF ∧ (itemsF (locOf r p) dd).length ≤ cF ∧ Ext W w') := Lib.hid fun W hW =>
    (ref15_items A B C D X Y c d a b cx cy dd r p W HKN.out.both HKN.out.num (HPT.out.ext hW) HCAP.out (HDR.out.ext hW) HOX.out HOY.out HDO.out HDI.out HDF.out).mono fun e w' ⟨F, cF, h1, h2⟩ => ⟨F, cF, h1, h2.row, Acc.okc h2, h2.cap.1, h2.ext⟩
  generalize hL : itemsF (locOf r p) dd = L at *
  generalize hS : stopsP L (ahead (locOf r p) dd.neg).length = S at *
  have HL := Lib.hid hL
  clear hL hS
  have HRTX : Hid (∀ W F cF, Row W F (itsV L) → Calls Tryz.prog 25 #[.slice F L.length cF] W fun e w' => e = .returned (.string ⟨(textI L).toArray⟩) ∧ Ext W w') := Lib.hid fun W F cF hr => ref15_text F L.length cF L W hr rfl (by have := HIL.out.1; omega) HIL.out.2.1
  have HVS : Hid (∀ W, Ext w3 W → Calls Tryz.prog 34 #[.pointer (some ⟨vb, 0, none⟩)] W fun e w' => ∃ G c', e = .returned (.slice G S.length c') ∧ Row w' G (natsV S) ∧ Ext W w') := Lib.hid fun W hW => view_stops (HVW.out.ext hW) (by have := HSN.out; omega)
  have HVT : Hid (∀ W, Ext w3 W → Calls Tryz.prog 36 #[.pointer (some ⟨vb, 0, none⟩)] W fun e w' => e = .returned (.string ⟨(textI L).toArray⟩) ∧ W = w') := Lib.hid fun W hW => view_text (HVW.out.ext hW)
  have HLN : Hid (∀ W, Ext w3 W → Calls Tryz.prog 35 #[.pointer (some ⟨vb, 0, none⟩)] W fun e w' => e = .returned (.int .i64 ((S.length : Int) - 1)) ∧ W = w') := Lib.hid fun W hW => view_len (HVW.out.ext hW) (by have := HSN.out; omega) (by have := HSN.out; omega)
  have HST : Hid (∀ W (o : Int), i64 o → Ext w3 W → Calls Tryz.prog 32 #[.pointer (some ⟨vb, 0, none⟩), .int .i64 o] W fun e w' => e = .returned (.tuple #[.int .i64 (stopZ S o), .bool (inZ S o)]) ∧ W = w') := Lib.hid fun W o ho hW => view_stop (HVW.out.ext hW) o ho
  have HSM : Hid (∀ W G H c e, Row W G (natsV S) → Row W H (natsV S) → Calls Tryz.prog 33 #[.slice G S.length c, .slice H S.length e] W fun e w' => e = .returned (.bool true) ∧ Ext W w') := Lib.hid fun W G H c e h1 h2 => by
    rw [nats_ints] at h1 h2
    have hh := same G H c e (intsN S) (intsN S) W h1 h2 (by rw [intsN_len]; have := HSN.out; unfold maxLen; omega) (by rw [intsN_len]; have := HSN.out; unfold maxLen; omega)
    rw [intsN_len, decide_eq_true rfl] at hh
    exact hh
  have HSZ : Hid (∀ o : Int, (stopZ S o = if 0 ≤ o ∧ o < S.length then ((S.getD o.toNat 0 : Nat) : Int) else 0) ∧ inZ S o = decide (0 ≤ o ∧ o < S.length)) := Lib.hid fun o => ⟨rfl, rfl⟩
  have hsn : S.length ≤ 20 := by have := HSN.out; omega
  have hs1 : 1 ≤ S.length := by have := HSN.out; omega
  go_upto_region 5 with (first
    | (refine wpList_load_mid rfl 34 (.tmp 10) rfl lb 0 rfl [.string ⟨r.name.toArray⟩, .string ⟨r.pattern.toArray⟩, .string ⟨r.system.toArray⟩, .string ⟨r.decimal.toArray⟩, .string ⟨r.group.toArray⟩, .string ⟨r.minus.toArray⟩, .string ⟨r.percent.toArray⟩, .string ⟨r.currency.toArray⟩, .slice A p.pre.length c, .slice B p.suf.length d, .slice C p.npre.length a, .slice D p.nsuf.length b, .int .i64 p.num.prim, .int .i64 p.num.sec, .int .i64 p.num.minInt, .int .i64 p.num.minFrac, .int .i64 p.num.maxFrac] _ HRL.out Tryz.underlying34 rfl infoRL ?_)
    | (refine wpList_load_mid rfl 26 (.tmp 11) rfl db 0 rfl [.bool dd.neg, .slice X dd.int.length cx, .bool dd.sep, .slice Y dd.frac.length cy] _ HRE.out Tryz.underlying26 rfl infoD14 ?_)
    | (go_at_call 31; with_reducible refine (HRST.out _ (Ext.refl _)).mono ?_; rintro e w4 ⟨G, cG, rfl, hrG, hx4⟩))
  have HRG4 := Lib.hid hrG
  have HX4 := Lib.hid hx4
  clear hrG hx4 HRST
  generalize textI L = TX at *
  have bnn : ((S.length : Int) - 1 == (S.length : Int) - 1) = true := by simp
  go_upto_region 6 with fail
  go_wp2
  go_loopw [13, 14, 15, 16] (fun i _ _ _ wr => ∃ m : Nat, m ≤ S.length + 2 ∧ i = .int .i64 ((m : Int) - 1) ∧ Ext w4 wr) (fun i _ _ _ _ => S.length + 2 - (intOf i + 1).toNat)
  case atStart => exact ⟨0, Nat.zero_le _, rfl, Ext.refl _⟩
  case round =>
    obtain ⟨m, hm, rfl, hx⟩ := hrel
    have HX := Lib.hid hx
    have hmN : m ≤ S.length + 2 := by omega
    clear hx hm
    by_cases hlt : m ≤ S.length + 1
    · have i1 : (m : Int) - 1 ≤ (S.length : Int) := by omega
      have HSX := Lib.hid (fun W hW => HST.out W ((m : Int) - 1) ⟨by omega, by omega⟩ (HX4.out.trans (HX.out.trans hW)))
      obtain ⟨hsz, hin⟩ := HSZ.out ((m : Int) - 1)
      by_cases hin0 : 0 ≤ (m : Int) - 1 ∧ (m : Int) - 1 < (S.length : Int)
      · rw [if_pos hin0] at hsz
        rw [decide_eq_true hin0] at hin
        obtain ⟨j, rfl⟩ : ∃ j, m = j + 1 := ⟨m - 1, by omega⟩
        have hjt : (((j + 1 : Nat) : Int) - 1).toNat = j := by omega
        rw [hjt] at hsz
        have hj : j < S.length := by omega
        obtain ⟨gb, go, rfl, hcg⟩ := nats_row (HRG4.out.below HX.out (Nat.le_refl _)) hj
        have HZ := Lib.hid hsz
        have HI := Lib.hid hin
        have hjj : ((j + 1 : Nat) : Int) - 1 = (j : Int) := by omega
        have HSY : Hid (∀ W, Ext wr W → Calls Tryz.prog 32 #[.pointer (some ⟨vb, 0, none⟩), .int .i64 (j : Int)] W fun e w' => e = .returned (.tuple #[.int .i64 ((S.getD j 0 : Nat) : Int), .bool true]) ∧ W = w') := Lib.hid fun W hW => by
          have h := HSX.out W hW
          rw [HZ.out, HI.out, hjj] at h
          exact h
        generalize S.getD j 0 = v at *
        have k1 : (j : Int) < (S.length : Int) := by omega
        have k2 : (0 : Int) ≤ (j : Int) := by omega
        have k3 : (j : Int) ≥ 0 := by omega
        have k4 : max (j : Int) 0 = (j : Int) := by omega
        have k5 : min (j : Int) ((S.length : Int) - 1) = (j : Int) := by omega
        have k6 : (j : Int) ≤ (S.length : Int) := by omega
        have bv : ((v : Int) != (v : Int)) = false := by simp
        clear hsz hin hin0 i1 HSX
        go_wp2_with (go_at_call 32; with_reducible refine (HSY.out _ (Ext.refl _)).mono ?_; rintro e w7 ⟨rfl, rfl⟩)
        go_roundw
        case rel => exact ⟨j + 1 + 1, by omega, by go_num, HX.out⟩
        case measure => simp [intOf]; omega
      · rw [if_neg hin0] at hsz
        rw [decide_eq_false hin0] at hin
        have HZ := Lib.hid hsz
        have HI := Lib.hid hin
        have HSY : Hid (∀ W, Ext wr W → Calls Tryz.prog 32 #[.pointer (some ⟨vb, 0, none⟩), .int .i64 ((m : Int) - 1)] W fun e w' => e = .returned (.tuple #[.int .i64 0, .bool false]) ∧ W = w') := Lib.hid fun W hW => by
          have h := HSX.out W hW
          rw [HZ.out, HI.out] at h
          exact h
        clear hsz hin HSX
        by_cases hneg : (m : Int) - 1 ≥ 0
        · have k1 : ¬ ((m : Int) - 1 < (S.length : Int)) := by omega
          clear hin0
          go_wp2_with (go_at_call 32; with_reducible refine (HSY.out _ (Ext.refl _)).mono ?_; rintro e w7 ⟨rfl, rfl⟩)
          go_roundw
          case rel => exact ⟨m + 1, by omega, by go_num, HX.out⟩
          case measure => simp [intOf]; omega
        · clear hin0
          go_wp2_with (go_at_call 32; with_reducible refine (HSY.out _ (Ext.refl _)).mono ?_; rintro e w7 ⟨rfl, rfl⟩)
          go_roundw
          case rel => exact ⟨m + 1, by omega, by go_num, HX.out⟩
          case measure => simp [intOf]; omega
    · have i1 : ¬ ((m : Int) - 1 ≤ (S.length : Int)) := by omega
      have HXR := Lib.hid (HX4.out.trans HX.out)
      have HRG := Lib.hid (HRG4.out.below HX.out (Nat.le_refl _))
      have HRLR := Lib.hid (Ext.range_ HXR.out HRL.out)
      have HRER := Lib.hid (Ext.range_ HXR.out HRE.out)
      have HSX := Lib.hid (fun W hW => HST.out W k hk (HXR.out.trans hW))
      obtain ⟨hsz, hin⟩ := HSZ.out k
      generalize stopZ S k = sz at *
      by_cases h0 : k ≥ 0
      · by_cases h1 : k < (S.length : Int)
        · rw [decide_eq_true ⟨h0, h1⟩] at hin
          have HI := Lib.hid hin
          have HSY : Hid (∀ W, Ext wr W → Calls Tryz.prog 32 #[.pointer (some ⟨vb, 0, none⟩), .int .i64 k] W fun e w' => e = .returned (.tuple #[.int .i64 sz, .bool true]) ∧ W = w') := Lib.hid fun W hW => by
            have h := HSX.out W hW
            rw [HI.out] at h
            exact h
          clear hsz hin HSX
          go_upto_region 13 with (go_at_call 32; with_reducible refine (HSY.out _ (Ext.refl _)).mono ?_; rintro e w7 ⟨rfl, rfl⟩)
          have w94 : IntKind.i64.wrap ((S.length : Int) - 1) = (S.length : Int) - 1 := by rw [IntKind.wrap_i64]; omega
          refine wp_region_noPanic ?_
          refine wp_region_held_drew (S := fun W => Ext w3 W ∧ W.rangeAt lb 0 [.string ⟨r.name.toArray⟩, .string ⟨r.pattern.toArray⟩, .string ⟨r.system.toArray⟩, .string ⟨r.decimal.toArray⟩, .string ⟨r.group.toArray⟩, .string ⟨r.minus.toArray⟩, .string ⟨r.percent.toArray⟩, .string ⟨r.currency.toArray⟩, .slice A p.pre.length c, .slice B p.suf.length d, .slice C p.npre.length a, .slice D p.nsuf.length b, .int .i64 p.num.prim, .int .i64 p.num.sec, .int .i64 p.num.minInt, .int .i64 p.num.minFrac, .int .i64 p.num.maxFrac] ∧ W.rangeAt db 0 [.bool dd.neg, .slice X dd.int.length cx, .bool dd.sep, .slice Y dd.frac.length cy]) (by kernel_rfl) ?_ (fun hHeld => ?_)
          · exact ⟨Ext.drew_ HXR.out, HRLR.out, HRER.out⟩
          refine take_ 0 (v := ?_) rfl (by kernel_rfl) (by kernel_rfl) (by kernel_rfl) (fun _ _ _ h => h) hHeld (by rfl) ?_ ?_
          rotate_left 1
          · (intro w hSw; (try dsimp only at hSw); go_simp; all_goals with_reducible rfl)
          try simp only [Act.put, List.setIfInBounds_toArray, List.set_cons_zero, List.set_cons_succ]
          refine take_ 2 (v := ?_) rfl (by kernel_rfl) (by kernel_rfl) (by kernel_rfl) (fun _ _ _ h => h) hHeld (by rfl) ?_ ?_
          rotate_left 1
          · (intro w hSw; (try dsimp only at hSw); go_simp; all_goals with_reducible rfl)
          try simp only [Act.put, List.setIfInBounds_toArray, List.set_cons_zero, List.set_cons_succ]
          refine only_ 1 rfl (by kernel_rfl) (fun K1 hK1 => ?_)
          go_simp
          go_at_call 34
          refine (HVS.out _ hHeld.1).mono ?_
          rintro e w7 ⟨G2, cG2, rfl, hrG2, hx7⟩
          have hrG7 := HRG.out.below (Ext.trans ((Ext.drew_ (Ext.refl wr))) hx7) (Nat.le_refl _)
          refine hK1.out _ _ (⟨hHeld.1.trans hx7, Ext.range_ hx7 hHeld.2.1, Ext.range_ hx7 hHeld.2.2⟩) (fun hHeld => ?_)
          clear hK1
          try simp only [Act.put, List.setIfInBounds_toArray, List.set_cons_zero, List.set_cons_succ]
          refine only_ 3 rfl (by kernel_rfl) (fun K1 hK1 => ?_)
          go_simp
          go_at_call 33
          refine (HSM.out _ _ _ _ _ hrG2 hrG7).mono ?_
          rintro e w8 ⟨rfl, hx8⟩
          refine hK1.out _ _ (⟨hHeld.1.trans hx8, Ext.range_ hx8 hHeld.2.1, Ext.range_ hx8 hHeld.2.2⟩) (fun hHeld => ?_)
          clear hK1
          try simp only [Act.put, List.setIfInBounds_toArray, List.set_cons_zero, List.set_cons_succ]
          refine take_ 4 (v := ?_) rfl (by kernel_rfl) (by kernel_rfl) (by kernel_rfl) (fun _ _ _ h => h) hHeld (by rfl) ?_ ?_
          rotate_left 1
          · (intro w hSw; (try dsimp only at hSw); go_simp; all_goals with_reducible rfl)
          try simp only [Act.put, List.setIfInBounds_toArray, List.set_cons_zero, List.set_cons_succ]
          refine take_ 5 (v := ?_) rfl (by kernel_rfl) (by kernel_rfl) (by kernel_rfl) (fun _ _ _ h => h) hHeld (by rfl) ?_ ?_
          rotate_left 1
          · (intro w hSw; (try dsimp only at hSw); go_simp; all_goals with_reducible rfl)
          try simp only [Act.put, List.setIfInBounds_toArray, List.set_cons_zero, List.set_cons_succ]
          refine take_ 7 (v := ?_) rfl (by kernel_rfl) (by kernel_rfl) (by kernel_rfl) (fun _ _ _ h => h) hHeld (by rfl) ?_ ?_
          rotate_left 1
          · (intro w hSw; (try dsimp only at hSw); go_simp; all_goals with_reducible rfl)
          try simp only [Act.put, List.setIfInBounds_toArray, List.set_cons_zero, List.set_cons_succ]
          refine take_ 8 (v := ?_) rfl (by kernel_rfl) (by kernel_rfl) (by kernel_rfl) (fun _ _ _ h => h) hHeld (by rfl) ?_ ?_
          rotate_left 1
          · (intro w hSw; (try dsimp only at hSw); go_simp; all_goals with_reducible rfl)
          try simp only [Act.put, List.setIfInBounds_toArray, List.set_cons_zero, List.set_cons_succ]
          refine take_ 9 (v := ?_) rfl (by kernel_rfl) (by kernel_rfl) (by kernel_rfl) (fun _ _ _ h => h) hHeld (by rfl) ?_ ?_
          rotate_left 1
          · (intro w hSw; (try dsimp only at hSw); go_simp; all_goals with_reducible rfl)
          try simp only [Act.put, List.setIfInBounds_toArray, List.set_cons_zero, List.set_cons_succ]
          refine only_ 6 rfl (by kernel_rfl) (fun K1 hK1 => ?_)
          go_simp
          go_at_call 35
          refine (HLN.out _ hHeld.1).mono ?_
          rintro e w9 ⟨rfl, rfl⟩
          refine hK1.out _ _ (hHeld) (fun hHeld => ?_)
          clear hK1
          try simp only [Act.put, List.setIfInBounds_toArray, List.set_cons_zero, List.set_cons_succ]
          refine take_ 10 (v := ?_) rfl (by kernel_rfl) (by kernel_rfl) (by kernel_rfl) (fun _ _ _ h => h) hHeld (by rfl) ?_ ?_
          rotate_left 1
          · (intro w hSw; (try dsimp only at hSw); go_simp; all_goals with_reducible rfl)
          try simp only [Act.put, List.setIfInBounds_toArray, List.set_cons_zero, List.set_cons_succ]
          refine take_ 11 (v := ?_) rfl (by kernel_rfl) (by kernel_rfl) (by kernel_rfl) (fun _ _ _ h => h) hHeld (by rfl) ?_ ?_
          rotate_left 1
          · (intro w hSw; (try dsimp only at hSw); go_simp; all_goals with_reducible rfl)
          try simp only [Act.put, List.setIfInBounds_toArray, List.set_cons_zero, List.set_cons_succ]
          refine take_ 12 (v := ?_) rfl (by kernel_rfl) (by kernel_rfl) (by kernel_rfl) (fun _ _ _ h => h) hHeld (by rfl) ?_ ?_
          rotate_left 1
          · (intro w hSw; (try dsimp only at hSw); go_simp; all_goals with_reducible rfl)
          try simp only [Act.put, List.setIfInBounds_toArray, List.set_cons_zero, List.set_cons_succ]
          refine take_ 13 (v := ?_) rfl (by kernel_rfl) (by kernel_rfl) (by kernel_rfl) (fun _ _ _ h => h) hHeld (by rfl) ?_ ?_
          rotate_left 1
          · (intro w hSw; (try dsimp only at hSw); go_simp; all_goals with_reducible rfl)
          try simp only [Act.put, List.setIfInBounds_toArray, List.set_cons_zero, List.set_cons_succ]
          refine take_ 14 (v := ?_) rfl (by kernel_rfl) (by kernel_rfl) (by kernel_rfl) (fun _ _ _ h => h) hHeld (by rfl) ?_ ?_
          rotate_left 1
          · (intro w hSw; (try dsimp only at hSw); go_simp; all_goals with_reducible rfl)
          try simp only [Act.put, List.setIfInBounds_toArray, List.set_cons_zero, List.set_cons_succ]
          refine take_ 15 (v := ?_) rfl (by kernel_rfl) (by kernel_rfl) (by kernel_rfl) (fun _ _ _ h => h) hHeld (by rfl) ?_ ?_
          rotate_left 1
          · (intro w hSw; (try dsimp only at hSw); go_simp; all_goals with_reducible rfl)
          try simp only [Act.put, List.setIfInBounds_toArray, List.set_cons_zero, List.set_cons_succ]
          refine take_ 16 (v := ?_) rfl (by kernel_rfl) (by kernel_rfl) (by kernel_rfl) (fun _ _ _ h => h) hHeld (by rfl) ?_ ?_
          rotate_left 1
          · (intro w hSw; (try dsimp only at hSw); go_simp; all_goals with_reducible rfl)
          try simp only [Act.put, List.setIfInBounds_toArray, List.set_cons_zero, List.set_cons_succ]
          refine take_ 17 (v := ?_) rfl (by kernel_rfl) (by kernel_rfl) (by kernel_rfl) (fun _ _ _ h => h) hHeld (by rfl) ?_ ?_
          rotate_left 1
          · (intro w hSw; (try dsimp only at hSw); go_simp; all_goals with_reducible rfl)
          try simp only [Act.put, List.setIfInBounds_toArray, List.set_cons_zero, List.set_cons_succ]
          refine take_ 18 (v := ?_) rfl (by kernel_rfl) (by kernel_rfl) (by kernel_rfl) (fun _ _ _ h => h) hHeld (by rfl) ?_ ?_
          rotate_left 1
          · (intro w hSw; (try dsimp only at hSw); go_simp; all_goals with_reducible rfl)
          try simp only [Act.put, List.setIfInBounds_toArray, List.set_cons_zero, List.set_cons_succ]
          refine take_ 19 (v := ?_) rfl (by kernel_rfl) (by kernel_rfl) (by kernel_rfl) (fun _ _ _ h => h) hHeld (by rfl) ?_ ?_
          rotate_left 1
          · (intro w hSw; (try dsimp only at hSw); go_simp; all_goals with_reducible rfl)
          try simp only [Act.put, List.setIfInBounds_toArray, List.set_cons_zero, List.set_cons_succ]
          refine take_ 20 (v := ?_) rfl (by kernel_rfl) (by kernel_rfl) (by kernel_rfl) (fun _ _ _ h => h) hHeld (by rfl) ?_ ?_
          rotate_left 1
          · (intro w hSw; (try dsimp only at hSw); go_simp; all_goals with_reducible rfl)
          try simp only [Act.put, List.setIfInBounds_toArray, List.set_cons_zero, List.set_cons_succ]
          refine take_ 21 (v := ?_) rfl (by kernel_rfl) (by kernel_rfl) (by kernel_rfl) (fun _ _ _ h => h) hHeld (by rfl) ?_ ?_
          rotate_left 1
          · (intro w hSw; (try dsimp only at hSw); go_simp; all_goals with_reducible rfl)
          try simp only [Act.put, List.setIfInBounds_toArray, List.set_cons_zero, List.set_cons_succ]
          refine take_ 22 (v := ?_) rfl (by kernel_rfl) (by kernel_rfl) (by kernel_rfl) (fun _ _ _ h => h) hHeld (by rfl) ?_ ?_
          rotate_left 1
          · (intro w hSw; (try dsimp only at hSw); go_simp; all_goals with_reducible rfl)
          try simp only [Act.put, List.setIfInBounds_toArray, List.set_cons_zero, List.set_cons_succ]
          refine take_ 23 (v := ?_) rfl (by kernel_rfl) (by kernel_rfl) (by kernel_rfl) (fun _ _ _ h => h) hHeld (by rfl) ?_ ?_
          rotate_left 1
          · (intro w hSw; (try dsimp only at hSw); go_simp; all_goals with_reducible rfl)
          try simp only [Act.put, List.setIfInBounds_toArray, List.set_cons_zero, List.set_cons_succ]
          refine take_ 24 (v := ?_) rfl (by kernel_rfl) (by kernel_rfl) (by kernel_rfl) (fun _ _ _ h => h) hHeld (by rfl) ?_ ?_
          rotate_left 1
          · (intro w hSw; (try dsimp only at hSw); go_simp; all_goals with_reducible rfl)
          try simp only [Act.put, List.setIfInBounds_toArray, List.set_cons_zero, List.set_cons_succ]
          refine take_ 25 (v := ?_) rfl (by kernel_rfl) (by kernel_rfl) (by kernel_rfl) (fun _ _ _ h => h) hHeld (by rfl) ?_ ?_
          rotate_left 1
          · (intro w hSw; (try dsimp only at hSw); go_simp; all_goals with_reducible rfl)
          try simp only [Act.put, List.setIfInBounds_toArray, List.set_cons_zero, List.set_cons_succ]
          refine takeRow_ (cs := [.string ⟨r.name.toArray⟩, .string ⟨r.pattern.toArray⟩, .string ⟨r.system.toArray⟩, .string ⟨r.decimal.toArray⟩, .string ⟨r.group.toArray⟩, .string ⟨r.minus.toArray⟩, .string ⟨r.percent.toArray⟩, .string ⟨r.currency.toArray⟩, .slice A p.pre.length c, .slice B p.suf.length d, .slice C p.npre.length a, .slice D p.nsuf.length b, .int .i64 p.num.prim, .int .i64 p.num.sec, .int .i64 p.num.minInt, .int .i64 p.num.minFrac, .int .i64 p.num.maxFrac]) 27 rfl (by kernel_rfl) (by kernel_rfl) (by kernel_rfl) (fun _ _ _ h => h) hHeld (by rfl) 34 ((.tmp 10)) rfl lb (0) rfl _ (fun _ h => h.2.1) Tryz.underlying34 rfl infoRL ?_
          try simp only [Act.put, List.setIfInBounds_toArray, List.set_cons_zero, List.set_cons_succ]
          refine takeRow_ (cs := [.bool dd.neg, .slice X dd.int.length cx, .bool dd.sep, .slice Y dd.frac.length cy]) 28 rfl (by kernel_rfl) (by kernel_rfl) (by kernel_rfl) (fun _ _ _ h => h) hHeld (by rfl) 26 ((.tmp 11)) rfl db (0) rfl _ (fun _ h => h.2.2) Tryz.underlying26 rfl infoD14 ?_
          try simp only [Act.put, List.setIfInBounds_toArray, List.set_cons_zero, List.set_cons_succ]
          refine only_ 26 rfl (by kernel_rfl) (fun K1 hK1 => ?_)
          go_simp
          go_at_call 36
          refine (HVT.out _ hHeld.1).mono ?_
          rintro e w10 ⟨rfl, rfl⟩
          refine hK1.out _ _ (hHeld) (fun hHeld => ?_)
          clear hK1
          try simp only [Act.put, List.setIfInBounds_toArray, List.set_cons_zero, List.set_cons_succ]
          refine only_ 29 rfl (by kernel_rfl) (fun K1 hK1 => ?_)
          go_simp
          go_at_call 21
          refine (HRIT.out _ hHeld.1).mono ?_
          rintro e w11 ⟨F2, cF2, rfl, hrF, oF, hcF, hx11⟩
          refine hK1.out _ _ (⟨hHeld.1.trans hx11, Ext.range_ hx11 hHeld.2.1, Ext.range_ hx11 hHeld.2.2⟩) (fun hHeld => ?_)
          clear hK1
          try simp only [Act.put, List.setIfInBounds_toArray, List.set_cons_zero, List.set_cons_succ]
          refine only_ 30 rfl (by kernel_rfl) (fun K1 hK1 => ?_)
          go_simp
          go_at_call 25
          refine (HRTX.out _ _ _ hrF).mono ?_
          rintro e w12 ⟨rfl, hx12⟩
          refine hK1.out _ _ (⟨hHeld.1.trans hx12, Ext.range_ hx12 hHeld.2.1, Ext.range_ hx12 hHeld.2.2⟩) (fun hHeld => ?_)
          clear hK1
          try simp only [Act.put, List.setIfInBounds_toArray, List.set_cons_zero, List.set_cons_succ]
          refine take_ 31 (v := ?_) rfl (by kernel_rfl) (by kernel_rfl) (by kernel_rfl) (fun _ _ _ h => h) hHeld (by rfl) ?_ ?_
          rotate_left 1
          · (intro w hSw; (try dsimp only at hSw); go_simp; all_goals with_reducible rfl)
          try simp only [Act.put, List.setIfInBounds_toArray, List.set_cons_zero, List.set_cons_succ]
          refine take_ 32 (v := ?_) rfl (by kernel_rfl) (by kernel_rfl) (by kernel_rfl) (fun _ _ _ h => h) hHeld (by rfl) ?_ ?_
          rotate_left 1
          · (intro w hSw; (try dsimp only at hSw); go_simp; all_goals with_reducible rfl)
          try simp only [Act.put, List.setIfInBounds_toArray, List.set_cons_zero, List.set_cons_succ]
          refine take_ 33 (v := ?_) rfl (by kernel_rfl) (by kernel_rfl) (by kernel_rfl) (fun _ _ _ h => h) hHeld (by rfl) ?_ ?_
          rotate_left 1
          · (intro w hSw; (try dsimp only at hSw); go_simp; all_goals with_reducible rfl)
          try simp only [Act.put, List.setIfInBounds_toArray, List.set_cons_zero, List.set_cons_succ]
          refine only_ 34 rfl (by kernel_rfl) (fun K1 hK1 => ?_)
          go_simp
          go_at_call 37
          refine (HLV.out _ (HX3.out.trans hHeld.1)).mono ?_
          rintro e w13 ⟨rfl, hx13⟩
          refine hK1.out _ _ (⟨hHeld.1.trans hx13, Ext.range_ hx13 hHeld.2.1, Ext.range_ hx13 hHeld.2.2⟩) (fun hHeld => ?_)
          clear hK1
          try simp only [Act.put, List.setIfInBounds_toArray, List.set_cons_zero, List.set_cons_succ]
          refine take_ 35 (v := ?_) rfl (by kernel_rfl) (by kernel_rfl) (by kernel_rfl) (fun _ _ _ h => h) hHeld (by rfl) ?_ ?_
          rotate_left 1
          · (intro w hSw; (try dsimp only at hSw); go_simp; all_goals with_reducible rfl)
          try simp only [Act.put, List.setIfInBounds_toArray, List.set_cons_zero, List.set_cons_succ]
          refine take_ 36 (v := ?_) rfl (by kernel_rfl) (by kernel_rfl) (by kernel_rfl) (fun _ _ _ h => h) hHeld (by rfl) ?_ ?_
          rotate_left 1
          · (intro w hSw; (try dsimp only at hSw); go_simp; all_goals with_reducible rfl)
          try simp only [Act.put, List.setIfInBounds_toArray, List.set_cons_zero, List.set_cons_succ]
          refine wpAnyH_done (by kernel_rfl) ?_ _
          refine NoPanic.normal ?_
          have HH := Lib.hid hHeld.1
          clear hHeld
          go_wp2
          go_ret
          exact ⟨rfl, HX3.out.trans HH.out⟩
        · have h1f : (k < (S.length : Int)) = False := eq_false h1
          rw [decide_eq_false (fun h => h1 h.2)] at hin
          have HI := Lib.hid hin
          have HSY : Hid (∀ W, Ext wr W → Calls Tryz.prog 32 #[.pointer (some ⟨vb, 0, none⟩), .int .i64 k] W fun e w' => e = .returned (.tuple #[.int .i64 sz, .bool false]) ∧ W = w') := Lib.hid fun W hW => by
            have h := HSX.out W hW
            rw [HI.out] at h
            exact h
          clear hsz hin HSX
          go_upto_region 13 with (go_at_call 32; with_reducible refine (HSY.out _ (Ext.refl _)).mono ?_; rintro e w7 ⟨rfl, rfl⟩)
          have w94 : IntKind.i64.wrap ((S.length : Int) - 1) = (S.length : Int) - 1 := by rw [IntKind.wrap_i64]; omega
          refine wp_region_noPanic ?_
          refine wp_region_held_drew (S := fun W => Ext w3 W ∧ W.rangeAt lb 0 [.string ⟨r.name.toArray⟩, .string ⟨r.pattern.toArray⟩, .string ⟨r.system.toArray⟩, .string ⟨r.decimal.toArray⟩, .string ⟨r.group.toArray⟩, .string ⟨r.minus.toArray⟩, .string ⟨r.percent.toArray⟩, .string ⟨r.currency.toArray⟩, .slice A p.pre.length c, .slice B p.suf.length d, .slice C p.npre.length a, .slice D p.nsuf.length b, .int .i64 p.num.prim, .int .i64 p.num.sec, .int .i64 p.num.minInt, .int .i64 p.num.minFrac, .int .i64 p.num.maxFrac] ∧ W.rangeAt db 0 [.bool dd.neg, .slice X dd.int.length cx, .bool dd.sep, .slice Y dd.frac.length cy]) (by kernel_rfl) ?_ (fun hHeld => ?_)
          · exact ⟨Ext.drew_ HXR.out, HRLR.out, HRER.out⟩
          refine take_ 0 (v := ?_) rfl (by kernel_rfl) (by kernel_rfl) (by kernel_rfl) (fun _ _ _ h => h) hHeld (by rfl) ?_ ?_
          rotate_left 1
          · (intro w hSw; (try dsimp only at hSw); go_simp; all_goals with_reducible rfl)
          try simp only [Act.put, List.setIfInBounds_toArray, List.set_cons_zero, List.set_cons_succ]
          refine take_ 2 (v := ?_) rfl (by kernel_rfl) (by kernel_rfl) (by kernel_rfl) (fun _ _ _ h => h) hHeld (by rfl) ?_ ?_
          rotate_left 1
          · (intro w hSw; (try dsimp only at hSw); go_simp; all_goals with_reducible rfl)
          try simp only [Act.put, List.setIfInBounds_toArray, List.set_cons_zero, List.set_cons_succ]
          refine only_ 1 rfl (by kernel_rfl) (fun K1 hK1 => ?_)
          go_simp
          go_at_call 34
          refine (HVS.out _ hHeld.1).mono ?_
          rintro e w7 ⟨G2, cG2, rfl, hrG2, hx7⟩
          have hrG7 := HRG.out.below (Ext.trans ((Ext.drew_ (Ext.refl wr))) hx7) (Nat.le_refl _)
          refine hK1.out _ _ (⟨hHeld.1.trans hx7, Ext.range_ hx7 hHeld.2.1, Ext.range_ hx7 hHeld.2.2⟩) (fun hHeld => ?_)
          clear hK1
          try simp only [Act.put, List.setIfInBounds_toArray, List.set_cons_zero, List.set_cons_succ]
          refine only_ 3 rfl (by kernel_rfl) (fun K1 hK1 => ?_)
          go_simp
          go_at_call 33
          refine (HSM.out _ _ _ _ _ hrG2 hrG7).mono ?_
          rintro e w8 ⟨rfl, hx8⟩
          refine hK1.out _ _ (⟨hHeld.1.trans hx8, Ext.range_ hx8 hHeld.2.1, Ext.range_ hx8 hHeld.2.2⟩) (fun hHeld => ?_)
          clear hK1
          try simp only [Act.put, List.setIfInBounds_toArray, List.set_cons_zero, List.set_cons_succ]
          refine take_ 4 (v := ?_) rfl (by kernel_rfl) (by kernel_rfl) (by kernel_rfl) (fun _ _ _ h => h) hHeld (by rfl) ?_ ?_
          rotate_left 1
          · (intro w hSw; (try dsimp only at hSw); go_simp; all_goals with_reducible rfl)
          try simp only [Act.put, List.setIfInBounds_toArray, List.set_cons_zero, List.set_cons_succ]
          refine take_ 5 (v := ?_) rfl (by kernel_rfl) (by kernel_rfl) (by kernel_rfl) (fun _ _ _ h => h) hHeld (by rfl) ?_ ?_
          rotate_left 1
          · (intro w hSw; (try dsimp only at hSw); go_simp; all_goals with_reducible rfl)
          try simp only [Act.put, List.setIfInBounds_toArray, List.set_cons_zero, List.set_cons_succ]
          refine take_ 7 (v := ?_) rfl (by kernel_rfl) (by kernel_rfl) (by kernel_rfl) (fun _ _ _ h => h) hHeld (by rfl) ?_ ?_
          rotate_left 1
          · (intro w hSw; (try dsimp only at hSw); go_simp; all_goals with_reducible rfl)
          try simp only [Act.put, List.setIfInBounds_toArray, List.set_cons_zero, List.set_cons_succ]
          refine take_ 8 (v := ?_) rfl (by kernel_rfl) (by kernel_rfl) (by kernel_rfl) (fun _ _ _ h => h) hHeld (by rfl) ?_ ?_
          rotate_left 1
          · (intro w hSw; (try dsimp only at hSw); go_simp; all_goals with_reducible rfl)
          try simp only [Act.put, List.setIfInBounds_toArray, List.set_cons_zero, List.set_cons_succ]
          refine take_ 9 (v := ?_) rfl (by kernel_rfl) (by kernel_rfl) (by kernel_rfl) (fun _ _ _ h => h) hHeld (by rfl) ?_ ?_
          rotate_left 1
          · (intro w hSw; (try dsimp only at hSw); go_simp; all_goals with_reducible rfl)
          try simp only [Act.put, List.setIfInBounds_toArray, List.set_cons_zero, List.set_cons_succ]
          refine only_ 6 rfl (by kernel_rfl) (fun K1 hK1 => ?_)
          go_simp
          go_at_call 35
          refine (HLN.out _ hHeld.1).mono ?_
          rintro e w9 ⟨rfl, rfl⟩
          refine hK1.out _ _ (hHeld) (fun hHeld => ?_)
          clear hK1
          try simp only [Act.put, List.setIfInBounds_toArray, List.set_cons_zero, List.set_cons_succ]
          refine take_ 10 (v := ?_) rfl (by kernel_rfl) (by kernel_rfl) (by kernel_rfl) (fun _ _ _ h => h) hHeld (by rfl) ?_ ?_
          rotate_left 1
          · (intro w hSw; (try dsimp only at hSw); go_simp; all_goals with_reducible rfl)
          try simp only [Act.put, List.setIfInBounds_toArray, List.set_cons_zero, List.set_cons_succ]
          refine take_ 11 (v := ?_) rfl (by kernel_rfl) (by kernel_rfl) (by kernel_rfl) (fun _ _ _ h => h) hHeld (by rfl) ?_ ?_
          rotate_left 1
          · (intro w hSw; (try dsimp only at hSw); go_simp; all_goals with_reducible rfl)
          try simp only [Act.put, List.setIfInBounds_toArray, List.set_cons_zero, List.set_cons_succ]
          refine take_ 12 (v := ?_) rfl (by kernel_rfl) (by kernel_rfl) (by kernel_rfl) (fun _ _ _ h => h) hHeld (by rfl) ?_ ?_
          rotate_left 1
          · (intro w hSw; (try dsimp only at hSw); go_simp; all_goals with_reducible rfl)
          try simp only [Act.put, List.setIfInBounds_toArray, List.set_cons_zero, List.set_cons_succ]
          refine take_ 13 (v := ?_) rfl (by kernel_rfl) (by kernel_rfl) (by kernel_rfl) (fun _ _ _ h => h) hHeld (by rfl) ?_ ?_
          rotate_left 1
          · (intro w hSw; (try dsimp only at hSw); go_simp; all_goals with_reducible rfl)
          try simp only [Act.put, List.setIfInBounds_toArray, List.set_cons_zero, List.set_cons_succ]
          refine take_ 14 (v := ?_) rfl (by kernel_rfl) (by kernel_rfl) (by kernel_rfl) (fun _ _ _ h => h) hHeld (by rfl) ?_ ?_
          rotate_left 1
          · (intro w hSw; (try dsimp only at hSw); go_simp; all_goals with_reducible rfl)
          try simp only [Act.put, List.setIfInBounds_toArray, List.set_cons_zero, List.set_cons_succ]
          refine take_ 15 (v := ?_) rfl (by kernel_rfl) (by kernel_rfl) (by kernel_rfl) (fun _ _ _ h => h) hHeld (by rfl) ?_ ?_
          rotate_left 1
          · (intro w hSw; (try dsimp only at hSw); go_simp; all_goals with_reducible rfl)
          try simp only [Act.put, List.setIfInBounds_toArray, List.set_cons_zero, List.set_cons_succ]
          refine take_ 16 (v := ?_) rfl (by kernel_rfl) (by kernel_rfl) (by kernel_rfl) (fun _ _ _ h => h) hHeld (by rfl) ?_ ?_
          rotate_left 1
          · (intro w hSw; (try dsimp only at hSw); go_simp; all_goals with_reducible rfl)
          try simp only [Act.put, List.setIfInBounds_toArray, List.set_cons_zero, List.set_cons_succ]
          refine take_ 17 (v := ?_) rfl (by kernel_rfl) (by kernel_rfl) (by kernel_rfl) (fun _ _ _ h => h) hHeld (by rfl) ?_ ?_
          rotate_left 1
          · (intro w hSw; (try dsimp only at hSw); go_simp; all_goals with_reducible rfl)
          try simp only [Act.put, List.setIfInBounds_toArray, List.set_cons_zero, List.set_cons_succ]
          refine take_ 18 (v := ?_) rfl (by kernel_rfl) (by kernel_rfl) (by kernel_rfl) (fun _ _ _ h => h) hHeld (by rfl) ?_ ?_
          rotate_left 1
          · (intro w hSw; (try dsimp only at hSw); go_simp; all_goals with_reducible rfl)
          try simp only [Act.put, List.setIfInBounds_toArray, List.set_cons_zero, List.set_cons_succ]
          refine take_ 19 (v := ?_) rfl (by kernel_rfl) (by kernel_rfl) (by kernel_rfl) (fun _ _ _ h => h) hHeld (by rfl) ?_ ?_
          rotate_left 1
          · (intro w hSw; (try dsimp only at hSw); go_simp; all_goals with_reducible rfl)
          try simp only [Act.put, List.setIfInBounds_toArray, List.set_cons_zero, List.set_cons_succ]
          refine take_ 20 (v := ?_) rfl (by kernel_rfl) (by kernel_rfl) (by kernel_rfl) (fun _ _ _ h => h) hHeld (by rfl) ?_ ?_
          rotate_left 1
          · (intro w hSw; (try dsimp only at hSw); go_simp; all_goals with_reducible rfl)
          try simp only [Act.put, List.setIfInBounds_toArray, List.set_cons_zero, List.set_cons_succ]
          refine take_ 21 (v := ?_) rfl (by kernel_rfl) (by kernel_rfl) (by kernel_rfl) (fun _ _ _ h => h) hHeld (by rfl) ?_ ?_
          rotate_left 1
          · (intro w hSw; (try dsimp only at hSw); go_simp; all_goals with_reducible rfl)
          try simp only [Act.put, List.setIfInBounds_toArray, List.set_cons_zero, List.set_cons_succ]
          refine take_ 22 (v := ?_) rfl (by kernel_rfl) (by kernel_rfl) (by kernel_rfl) (fun _ _ _ h => h) hHeld (by rfl) ?_ ?_
          rotate_left 1
          · (intro w hSw; (try dsimp only at hSw); go_simp; all_goals with_reducible rfl)
          try simp only [Act.put, List.setIfInBounds_toArray, List.set_cons_zero, List.set_cons_succ]
          refine take_ 23 (v := ?_) rfl (by kernel_rfl) (by kernel_rfl) (by kernel_rfl) (fun _ _ _ h => h) hHeld (by rfl) ?_ ?_
          rotate_left 1
          · (intro w hSw; (try dsimp only at hSw); go_simp; all_goals with_reducible rfl)
          try simp only [Act.put, List.setIfInBounds_toArray, List.set_cons_zero, List.set_cons_succ]
          refine take_ 24 (v := ?_) rfl (by kernel_rfl) (by kernel_rfl) (by kernel_rfl) (fun _ _ _ h => h) hHeld (by rfl) ?_ ?_
          rotate_left 1
          · (intro w hSw; (try dsimp only at hSw); go_simp; all_goals with_reducible rfl)
          try simp only [Act.put, List.setIfInBounds_toArray, List.set_cons_zero, List.set_cons_succ]
          refine take_ 25 (v := ?_) rfl (by kernel_rfl) (by kernel_rfl) (by kernel_rfl) (fun _ _ _ h => h) hHeld (by rfl) ?_ ?_
          rotate_left 1
          · (intro w hSw; (try dsimp only at hSw); go_simp; all_goals with_reducible rfl)
          try simp only [Act.put, List.setIfInBounds_toArray, List.set_cons_zero, List.set_cons_succ]
          refine takeRow_ (cs := [.string ⟨r.name.toArray⟩, .string ⟨r.pattern.toArray⟩, .string ⟨r.system.toArray⟩, .string ⟨r.decimal.toArray⟩, .string ⟨r.group.toArray⟩, .string ⟨r.minus.toArray⟩, .string ⟨r.percent.toArray⟩, .string ⟨r.currency.toArray⟩, .slice A p.pre.length c, .slice B p.suf.length d, .slice C p.npre.length a, .slice D p.nsuf.length b, .int .i64 p.num.prim, .int .i64 p.num.sec, .int .i64 p.num.minInt, .int .i64 p.num.minFrac, .int .i64 p.num.maxFrac]) 27 rfl (by kernel_rfl) (by kernel_rfl) (by kernel_rfl) (fun _ _ _ h => h) hHeld (by rfl) 34 ((.tmp 10)) rfl lb (0) rfl _ (fun _ h => h.2.1) Tryz.underlying34 rfl infoRL ?_
          try simp only [Act.put, List.setIfInBounds_toArray, List.set_cons_zero, List.set_cons_succ]
          refine takeRow_ (cs := [.bool dd.neg, .slice X dd.int.length cx, .bool dd.sep, .slice Y dd.frac.length cy]) 28 rfl (by kernel_rfl) (by kernel_rfl) (by kernel_rfl) (fun _ _ _ h => h) hHeld (by rfl) 26 ((.tmp 11)) rfl db (0) rfl _ (fun _ h => h.2.2) Tryz.underlying26 rfl infoD14 ?_
          try simp only [Act.put, List.setIfInBounds_toArray, List.set_cons_zero, List.set_cons_succ]
          refine only_ 26 rfl (by kernel_rfl) (fun K1 hK1 => ?_)
          go_simp
          go_at_call 36
          refine (HVT.out _ hHeld.1).mono ?_
          rintro e w10 ⟨rfl, rfl⟩
          refine hK1.out _ _ (hHeld) (fun hHeld => ?_)
          clear hK1
          try simp only [Act.put, List.setIfInBounds_toArray, List.set_cons_zero, List.set_cons_succ]
          refine only_ 29 rfl (by kernel_rfl) (fun K1 hK1 => ?_)
          go_simp
          go_at_call 21
          refine (HRIT.out _ hHeld.1).mono ?_
          rintro e w11 ⟨F2, cF2, rfl, hrF, oF, hcF, hx11⟩
          refine hK1.out _ _ (⟨hHeld.1.trans hx11, Ext.range_ hx11 hHeld.2.1, Ext.range_ hx11 hHeld.2.2⟩) (fun hHeld => ?_)
          clear hK1
          try simp only [Act.put, List.setIfInBounds_toArray, List.set_cons_zero, List.set_cons_succ]
          refine only_ 30 rfl (by kernel_rfl) (fun K1 hK1 => ?_)
          go_simp
          go_at_call 25
          refine (HRTX.out _ _ _ hrF).mono ?_
          rintro e w12 ⟨rfl, hx12⟩
          refine hK1.out _ _ (⟨hHeld.1.trans hx12, Ext.range_ hx12 hHeld.2.1, Ext.range_ hx12 hHeld.2.2⟩) (fun hHeld => ?_)
          clear hK1
          try simp only [Act.put, List.setIfInBounds_toArray, List.set_cons_zero, List.set_cons_succ]
          refine take_ 31 (v := ?_) rfl (by kernel_rfl) (by kernel_rfl) (by kernel_rfl) (fun _ _ _ h => h) hHeld (by rfl) ?_ ?_
          rotate_left 1
          · (intro w hSw; (try dsimp only at hSw); go_simp; all_goals with_reducible rfl)
          try simp only [Act.put, List.setIfInBounds_toArray, List.set_cons_zero, List.set_cons_succ]
          refine take_ 32 (v := ?_) rfl (by kernel_rfl) (by kernel_rfl) (by kernel_rfl) (fun _ _ _ h => h) hHeld (by rfl) ?_ ?_
          rotate_left 1
          · (intro w hSw; (try dsimp only at hSw); go_simp; all_goals with_reducible rfl)
          try simp only [Act.put, List.setIfInBounds_toArray, List.set_cons_zero, List.set_cons_succ]
          refine take_ 33 (v := ?_) rfl (by kernel_rfl) (by kernel_rfl) (by kernel_rfl) (fun _ _ _ h => h) hHeld (by rfl) ?_ ?_
          rotate_left 1
          · (intro w hSw; (try dsimp only at hSw); go_simp; all_goals with_reducible rfl)
          try simp only [Act.put, List.setIfInBounds_toArray, List.set_cons_zero, List.set_cons_succ]
          refine only_ 34 rfl (by kernel_rfl) (fun K1 hK1 => ?_)
          go_simp
          go_at_call 37
          refine (HLV.out _ (HX3.out.trans hHeld.1)).mono ?_
          rintro e w13 ⟨rfl, hx13⟩
          refine hK1.out _ _ (⟨hHeld.1.trans hx13, Ext.range_ hx13 hHeld.2.1, Ext.range_ hx13 hHeld.2.2⟩) (fun hHeld => ?_)
          clear hK1
          try simp only [Act.put, List.setIfInBounds_toArray, List.set_cons_zero, List.set_cons_succ]
          refine take_ 35 (v := ?_) rfl (by kernel_rfl) (by kernel_rfl) (by kernel_rfl) (fun _ _ _ h => h) hHeld (by rfl) ?_ ?_
          rotate_left 1
          · (intro w hSw; (try dsimp only at hSw); go_simp; all_goals with_reducible rfl)
          try simp only [Act.put, List.setIfInBounds_toArray, List.set_cons_zero, List.set_cons_succ]
          refine take_ 36 (v := ?_) rfl (by kernel_rfl) (by kernel_rfl) (by kernel_rfl) (fun _ _ _ h => h) hHeld (by rfl) ?_ ?_
          rotate_left 1
          · (intro w hSw; (try dsimp only at hSw); go_simp; all_goals with_reducible rfl)
          try simp only [Act.put, List.setIfInBounds_toArray, List.set_cons_zero, List.set_cons_succ]
          refine wpAnyH_done (by kernel_rfl) ?_ _
          refine NoPanic.normal ?_
          have HH := Lib.hid hHeld.1
          clear hHeld
          go_wp2
          go_ret
          exact ⟨rfl, HX3.out.trans HH.out⟩
      · have h0f : (k ≥ 0) = False := eq_false h0
        have h0g : (0 ≤ k) = False := eq_false h0
        rw [decide_eq_false (fun h => h0 h.1)] at hin
        have HI := Lib.hid hin
        have HSY : Hid (∀ W, Ext wr W → Calls Tryz.prog 32 #[.pointer (some ⟨vb, 0, none⟩), .int .i64 k] W fun e w' => e = .returned (.tuple #[.int .i64 sz, .bool false]) ∧ W = w') := Lib.hid fun W hW => by
          have h := HSX.out W hW
          rw [HI.out] at h
          exact h
        clear hsz hin HSX
        go_upto_region 13 with (go_at_call 32; with_reducible refine (HSY.out _ (Ext.refl _)).mono ?_; rintro e w7 ⟨rfl, rfl⟩)
        have w94 : IntKind.i64.wrap ((S.length : Int) - 1) = (S.length : Int) - 1 := by rw [IntKind.wrap_i64]; omega
        refine wp_region_noPanic ?_
        refine wp_region_held_drew (S := fun W => Ext w3 W ∧ W.rangeAt lb 0 [.string ⟨r.name.toArray⟩, .string ⟨r.pattern.toArray⟩, .string ⟨r.system.toArray⟩, .string ⟨r.decimal.toArray⟩, .string ⟨r.group.toArray⟩, .string ⟨r.minus.toArray⟩, .string ⟨r.percent.toArray⟩, .string ⟨r.currency.toArray⟩, .slice A p.pre.length c, .slice B p.suf.length d, .slice C p.npre.length a, .slice D p.nsuf.length b, .int .i64 p.num.prim, .int .i64 p.num.sec, .int .i64 p.num.minInt, .int .i64 p.num.minFrac, .int .i64 p.num.maxFrac] ∧ W.rangeAt db 0 [.bool dd.neg, .slice X dd.int.length cx, .bool dd.sep, .slice Y dd.frac.length cy]) (by kernel_rfl) ?_ (fun hHeld => ?_)
        · exact ⟨Ext.drew_ HXR.out, HRLR.out, HRER.out⟩
        refine take_ 0 (v := ?_) rfl (by kernel_rfl) (by kernel_rfl) (by kernel_rfl) (fun _ _ _ h => h) hHeld (by rfl) ?_ ?_
        rotate_left 1
        · (intro w hSw; (try dsimp only at hSw); go_simp; all_goals with_reducible rfl)
        try simp only [Act.put, List.setIfInBounds_toArray, List.set_cons_zero, List.set_cons_succ]
        refine take_ 2 (v := ?_) rfl (by kernel_rfl) (by kernel_rfl) (by kernel_rfl) (fun _ _ _ h => h) hHeld (by rfl) ?_ ?_
        rotate_left 1
        · (intro w hSw; (try dsimp only at hSw); go_simp; all_goals with_reducible rfl)
        try simp only [Act.put, List.setIfInBounds_toArray, List.set_cons_zero, List.set_cons_succ]
        refine only_ 1 rfl (by kernel_rfl) (fun K1 hK1 => ?_)
        go_simp
        go_at_call 34
        refine (HVS.out _ hHeld.1).mono ?_
        rintro e w7 ⟨G2, cG2, rfl, hrG2, hx7⟩
        have hrG7 := HRG.out.below (Ext.trans ((Ext.drew_ (Ext.refl wr))) hx7) (Nat.le_refl _)
        refine hK1.out _ _ (⟨hHeld.1.trans hx7, Ext.range_ hx7 hHeld.2.1, Ext.range_ hx7 hHeld.2.2⟩) (fun hHeld => ?_)
        clear hK1
        try simp only [Act.put, List.setIfInBounds_toArray, List.set_cons_zero, List.set_cons_succ]
        refine only_ 3 rfl (by kernel_rfl) (fun K1 hK1 => ?_)
        go_simp
        go_at_call 33
        refine (HSM.out _ _ _ _ _ hrG2 hrG7).mono ?_
        rintro e w8 ⟨rfl, hx8⟩
        refine hK1.out _ _ (⟨hHeld.1.trans hx8, Ext.range_ hx8 hHeld.2.1, Ext.range_ hx8 hHeld.2.2⟩) (fun hHeld => ?_)
        clear hK1
        try simp only [Act.put, List.setIfInBounds_toArray, List.set_cons_zero, List.set_cons_succ]
        refine take_ 4 (v := ?_) rfl (by kernel_rfl) (by kernel_rfl) (by kernel_rfl) (fun _ _ _ h => h) hHeld (by rfl) ?_ ?_
        rotate_left 1
        · (intro w hSw; (try dsimp only at hSw); go_simp; all_goals with_reducible rfl)
        try simp only [Act.put, List.setIfInBounds_toArray, List.set_cons_zero, List.set_cons_succ]
        refine take_ 5 (v := ?_) rfl (by kernel_rfl) (by kernel_rfl) (by kernel_rfl) (fun _ _ _ h => h) hHeld (by rfl) ?_ ?_
        rotate_left 1
        · (intro w hSw; (try dsimp only at hSw); go_simp; all_goals with_reducible rfl)
        try simp only [Act.put, List.setIfInBounds_toArray, List.set_cons_zero, List.set_cons_succ]
        refine take_ 7 (v := ?_) rfl (by kernel_rfl) (by kernel_rfl) (by kernel_rfl) (fun _ _ _ h => h) hHeld (by rfl) ?_ ?_
        rotate_left 1
        · (intro w hSw; (try dsimp only at hSw); go_simp; all_goals with_reducible rfl)
        try simp only [Act.put, List.setIfInBounds_toArray, List.set_cons_zero, List.set_cons_succ]
        refine take_ 8 (v := ?_) rfl (by kernel_rfl) (by kernel_rfl) (by kernel_rfl) (fun _ _ _ h => h) hHeld (by rfl) ?_ ?_
        rotate_left 1
        · (intro w hSw; (try dsimp only at hSw); go_simp; all_goals with_reducible rfl)
        try simp only [Act.put, List.setIfInBounds_toArray, List.set_cons_zero, List.set_cons_succ]
        refine take_ 9 (v := ?_) rfl (by kernel_rfl) (by kernel_rfl) (by kernel_rfl) (fun _ _ _ h => h) hHeld (by rfl) ?_ ?_
        rotate_left 1
        · (intro w hSw; (try dsimp only at hSw); go_simp; all_goals with_reducible rfl)
        try simp only [Act.put, List.setIfInBounds_toArray, List.set_cons_zero, List.set_cons_succ]
        refine only_ 6 rfl (by kernel_rfl) (fun K1 hK1 => ?_)
        go_simp
        go_at_call 35
        refine (HLN.out _ hHeld.1).mono ?_
        rintro e w9 ⟨rfl, rfl⟩
        refine hK1.out _ _ (hHeld) (fun hHeld => ?_)
        clear hK1
        try simp only [Act.put, List.setIfInBounds_toArray, List.set_cons_zero, List.set_cons_succ]
        refine take_ 10 (v := ?_) rfl (by kernel_rfl) (by kernel_rfl) (by kernel_rfl) (fun _ _ _ h => h) hHeld (by rfl) ?_ ?_
        rotate_left 1
        · (intro w hSw; (try dsimp only at hSw); go_simp; all_goals with_reducible rfl)
        try simp only [Act.put, List.setIfInBounds_toArray, List.set_cons_zero, List.set_cons_succ]
        refine take_ 11 (v := ?_) rfl (by kernel_rfl) (by kernel_rfl) (by kernel_rfl) (fun _ _ _ h => h) hHeld (by rfl) ?_ ?_
        rotate_left 1
        · (intro w hSw; (try dsimp only at hSw); go_simp; all_goals with_reducible rfl)
        try simp only [Act.put, List.setIfInBounds_toArray, List.set_cons_zero, List.set_cons_succ]
        refine take_ 12 (v := ?_) rfl (by kernel_rfl) (by kernel_rfl) (by kernel_rfl) (fun _ _ _ h => h) hHeld (by rfl) ?_ ?_
        rotate_left 1
        · (intro w hSw; (try dsimp only at hSw); go_simp; all_goals with_reducible rfl)
        try simp only [Act.put, List.setIfInBounds_toArray, List.set_cons_zero, List.set_cons_succ]
        refine take_ 13 (v := ?_) rfl (by kernel_rfl) (by kernel_rfl) (by kernel_rfl) (fun _ _ _ h => h) hHeld (by rfl) ?_ ?_
        rotate_left 1
        · (intro w hSw; (try dsimp only at hSw); go_simp; all_goals with_reducible rfl)
        try simp only [Act.put, List.setIfInBounds_toArray, List.set_cons_zero, List.set_cons_succ]
        refine take_ 14 (v := ?_) rfl (by kernel_rfl) (by kernel_rfl) (by kernel_rfl) (fun _ _ _ h => h) hHeld (by rfl) ?_ ?_
        rotate_left 1
        · (intro w hSw; (try dsimp only at hSw); go_simp; all_goals with_reducible rfl)
        try simp only [Act.put, List.setIfInBounds_toArray, List.set_cons_zero, List.set_cons_succ]
        refine take_ 15 (v := ?_) rfl (by kernel_rfl) (by kernel_rfl) (by kernel_rfl) (fun _ _ _ h => h) hHeld (by rfl) ?_ ?_
        rotate_left 1
        · (intro w hSw; (try dsimp only at hSw); go_simp; all_goals with_reducible rfl)
        try simp only [Act.put, List.setIfInBounds_toArray, List.set_cons_zero, List.set_cons_succ]
        refine take_ 16 (v := ?_) rfl (by kernel_rfl) (by kernel_rfl) (by kernel_rfl) (fun _ _ _ h => h) hHeld (by rfl) ?_ ?_
        rotate_left 1
        · (intro w hSw; (try dsimp only at hSw); go_simp; all_goals with_reducible rfl)
        try simp only [Act.put, List.setIfInBounds_toArray, List.set_cons_zero, List.set_cons_succ]
        refine skip_ 17 rfl (by kernel_rfl) (by kernel_rfl) (by kernel_rfl) (fun _ _ _ h => h) hHeld (by rfl) ?_
        try simp only [Act.put, List.setIfInBounds_toArray, List.set_cons_zero, List.set_cons_succ]
        refine skip_ 18 rfl (by kernel_rfl) (by kernel_rfl) (by kernel_rfl) (fun _ _ _ h => h) hHeld (by rfl) ?_
        try simp only [Act.put, List.setIfInBounds_toArray, List.set_cons_zero, List.set_cons_succ]
        refine skip_ 19 rfl (by kernel_rfl) (by kernel_rfl) (by kernel_rfl) (fun _ _ _ h => h) hHeld (by rfl) ?_
        try simp only [Act.put, List.setIfInBounds_toArray, List.set_cons_zero, List.set_cons_succ]
        refine skip_ 20 rfl (by kernel_rfl) (by kernel_rfl) (by kernel_rfl) (fun _ _ _ h => h) hHeld (by rfl) ?_
        try simp only [Act.put, List.setIfInBounds_toArray, List.set_cons_zero, List.set_cons_succ]
        refine take_ 21 (v := ?_) rfl (by kernel_rfl) (by kernel_rfl) (by kernel_rfl) (fun _ _ _ h => h) hHeld (by rfl) ?_ ?_
        rotate_left 1
        · (intro w hSw; (try dsimp only at hSw); go_simp; all_goals with_reducible rfl)
        try simp only [Act.put, List.setIfInBounds_toArray, List.set_cons_zero, List.set_cons_succ]
        refine take_ 22 (v := ?_) rfl (by kernel_rfl) (by kernel_rfl) (by kernel_rfl) (fun _ _ _ h => h) hHeld (by rfl) ?_ ?_
        rotate_left 1
        · (intro w hSw; (try dsimp only at hSw); go_simp; all_goals with_reducible rfl)
        try simp only [Act.put, List.setIfInBounds_toArray, List.set_cons_zero, List.set_cons_succ]
        refine take_ 23 (v := ?_) rfl (by kernel_rfl) (by kernel_rfl) (by kernel_rfl) (fun _ _ _ h => h) hHeld (by rfl) ?_ ?_
        rotate_left 1
        · (intro w hSw; (try dsimp only at hSw); go_simp; all_goals with_reducible rfl)
        try simp only [Act.put, List.setIfInBounds_toArray, List.set_cons_zero, List.set_cons_succ]
        refine take_ 24 (v := ?_) rfl (by kernel_rfl) (by kernel_rfl) (by kernel_rfl) (fun _ _ _ h => h) hHeld (by rfl) ?_ ?_
        rotate_left 1
        · (intro w hSw; (try dsimp only at hSw); go_simp; all_goals with_reducible rfl)
        try simp only [Act.put, List.setIfInBounds_toArray, List.set_cons_zero, List.set_cons_succ]
        refine take_ 25 (v := ?_) rfl (by kernel_rfl) (by kernel_rfl) (by kernel_rfl) (fun _ _ _ h => h) hHeld (by rfl) ?_ ?_
        rotate_left 1
        · (intro w hSw; (try dsimp only at hSw); go_simp; all_goals with_reducible rfl)
        try simp only [Act.put, List.setIfInBounds_toArray, List.set_cons_zero, List.set_cons_succ]
        refine takeRow_ (cs := [.string ⟨r.name.toArray⟩, .string ⟨r.pattern.toArray⟩, .string ⟨r.system.toArray⟩, .string ⟨r.decimal.toArray⟩, .string ⟨r.group.toArray⟩, .string ⟨r.minus.toArray⟩, .string ⟨r.percent.toArray⟩, .string ⟨r.currency.toArray⟩, .slice A p.pre.length c, .slice B p.suf.length d, .slice C p.npre.length a, .slice D p.nsuf.length b, .int .i64 p.num.prim, .int .i64 p.num.sec, .int .i64 p.num.minInt, .int .i64 p.num.minFrac, .int .i64 p.num.maxFrac]) 27 rfl (by kernel_rfl) (by kernel_rfl) (by kernel_rfl) (fun _ _ _ h => h) hHeld (by rfl) 34 ((.tmp 10)) rfl lb (0) rfl _ (fun _ h => h.2.1) Tryz.underlying34 rfl infoRL ?_
        try simp only [Act.put, List.setIfInBounds_toArray, List.set_cons_zero, List.set_cons_succ]
        refine takeRow_ (cs := [.bool dd.neg, .slice X dd.int.length cx, .bool dd.sep, .slice Y dd.frac.length cy]) 28 rfl (by kernel_rfl) (by kernel_rfl) (by kernel_rfl) (fun _ _ _ h => h) hHeld (by rfl) 26 ((.tmp 11)) rfl db (0) rfl _ (fun _ h => h.2.2) Tryz.underlying26 rfl infoD14 ?_
        try simp only [Act.put, List.setIfInBounds_toArray, List.set_cons_zero, List.set_cons_succ]
        refine only_ 26 rfl (by kernel_rfl) (fun K1 hK1 => ?_)
        go_simp
        go_at_call 36
        refine (HVT.out _ hHeld.1).mono ?_
        rintro e w10 ⟨rfl, rfl⟩
        refine hK1.out _ _ (hHeld) (fun hHeld => ?_)
        clear hK1
        try simp only [Act.put, List.setIfInBounds_toArray, List.set_cons_zero, List.set_cons_succ]
        refine only_ 29 rfl (by kernel_rfl) (fun K1 hK1 => ?_)
        go_simp
        go_at_call 21
        refine (HRIT.out _ hHeld.1).mono ?_
        rintro e w11 ⟨F2, cF2, rfl, hrF, oF, hcF, hx11⟩
        refine hK1.out _ _ (⟨hHeld.1.trans hx11, Ext.range_ hx11 hHeld.2.1, Ext.range_ hx11 hHeld.2.2⟩) (fun hHeld => ?_)
        clear hK1
        try simp only [Act.put, List.setIfInBounds_toArray, List.set_cons_zero, List.set_cons_succ]
        refine only_ 30 rfl (by kernel_rfl) (fun K1 hK1 => ?_)
        go_simp
        go_at_call 25
        refine (HRTX.out _ _ _ hrF).mono ?_
        rintro e w12 ⟨rfl, hx12⟩
        refine hK1.out _ _ (⟨hHeld.1.trans hx12, Ext.range_ hx12 hHeld.2.1, Ext.range_ hx12 hHeld.2.2⟩) (fun hHeld => ?_)
        clear hK1
        try simp only [Act.put, List.setIfInBounds_toArray, List.set_cons_zero, List.set_cons_succ]
        refine take_ 31 (v := ?_) rfl (by kernel_rfl) (by kernel_rfl) (by kernel_rfl) (fun _ _ _ h => h) hHeld (by rfl) ?_ ?_
        rotate_left 1
        · (intro w hSw; (try dsimp only at hSw); go_simp; all_goals with_reducible rfl)
        try simp only [Act.put, List.setIfInBounds_toArray, List.set_cons_zero, List.set_cons_succ]
        refine take_ 32 (v := ?_) rfl (by kernel_rfl) (by kernel_rfl) (by kernel_rfl) (fun _ _ _ h => h) hHeld (by rfl) ?_ ?_
        rotate_left 1
        · (intro w hSw; (try dsimp only at hSw); go_simp; all_goals with_reducible rfl)
        try simp only [Act.put, List.setIfInBounds_toArray, List.set_cons_zero, List.set_cons_succ]
        refine take_ 33 (v := ?_) rfl (by kernel_rfl) (by kernel_rfl) (by kernel_rfl) (fun _ _ _ h => h) hHeld (by rfl) ?_ ?_
        rotate_left 1
        · (intro w hSw; (try dsimp only at hSw); go_simp; all_goals with_reducible rfl)
        try simp only [Act.put, List.setIfInBounds_toArray, List.set_cons_zero, List.set_cons_succ]
        refine only_ 34 rfl (by kernel_rfl) (fun K1 hK1 => ?_)
        go_simp
        go_at_call 37
        refine (HLV.out _ (HX3.out.trans hHeld.1)).mono ?_
        rintro e w13 ⟨rfl, hx13⟩
        refine hK1.out _ _ (⟨hHeld.1.trans hx13, Ext.range_ hx13 hHeld.2.1, Ext.range_ hx13 hHeld.2.2⟩) (fun hHeld => ?_)
        clear hK1
        try simp only [Act.put, List.setIfInBounds_toArray, List.set_cons_zero, List.set_cons_succ]
        refine take_ 35 (v := ?_) rfl (by kernel_rfl) (by kernel_rfl) (by kernel_rfl) (fun _ _ _ h => h) hHeld (by rfl) ?_ ?_
        rotate_left 1
        · (intro w hSw; (try dsimp only at hSw); go_simp; all_goals with_reducible rfl)
        try simp only [Act.put, List.setIfInBounds_toArray, List.set_cons_zero, List.set_cons_succ]
        refine take_ 36 (v := ?_) rfl (by kernel_rfl) (by kernel_rfl) (by kernel_rfl) (fun _ _ _ h => h) hHeld (by rfl) ?_ ?_
        rotate_left 1
        · (intro w hSw; (try dsimp only at hSw); go_simp; all_goals with_reducible rfl)
        try simp only [Act.put, List.setIfInBounds_toArray, List.set_cons_zero, List.set_cons_succ]
        refine wpAnyH_done (by kernel_rfl) ?_ _
        refine NoPanic.normal ?_
        have HH := Lib.hid hHeld.1
        clear hHeld
        go_wp2
        go_ret
        exact ⟨rfl, HX3.out.trans HH.out⟩
end Go.Proofs.YthoicieckodneaaGreatDoor.Loc
