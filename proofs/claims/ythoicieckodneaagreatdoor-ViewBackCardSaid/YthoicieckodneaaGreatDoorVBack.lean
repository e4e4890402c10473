/- The law ViewBack: each stop's nearest number is its own. (Printed by wip/gen/law16.py.) -/
import Derived.Test.YthoicieckodneaaGreatDoorVwP5
namespace Go.Proofs.YthoicieckodneaaGreatDoor.Loc
open Go.RowKit Utf All Small Strs Build EncC Pat Cls Dec Go.Proofs.YthoicieckodneaaGreatDoor.Sys
set_option linter.unusedVariables false
set_option linter.unusedSimpArgs false

set_option maxHeartbeats 16000000 in
set_option maxRecDepth 1000000 in
theorem law_ViewBack (v0 v1 v2 v3 v4 v5 n : Int) (A0 B0 : Option Addr) (c0 e0 : Nat) (d0 : Dr) (w : World) (h0 : i64 v0) (h1 : i64 v1) (h2 : i64 v2) (h3 : i64 v3) (h4 : i64 v4) (h5 : i64 v5) (hn : i64 n) (hd : DrR w A0 B0 d0) (hi : DrI d0) (hT : Tabs w) :
    Calls Tryz.prog 10 #[.agg ([.int .i64 v0, .int .i64 v1, .int .i64 v2, .int .i64 v3, .int .i64 v4, .int .i64 v5] : List Value).toArray, .int .i64 n, .agg ([.bool d0.neg, .slice A0 d0.int.length c0, .bool d0.sep, .slice B0 d0.frac.length e0] : List Value).toArray] w fun e w' => e = .returned (.bool true) ∧ Below w.heap.size w w' := by
  obtain ⟨r, p, dd, hK, hdok, hdi, hdf, hBG⟩ := begin16 v0 v1 v2 v3 v4 v5 n A0 B0 c0 e0 d0 h0 h1 h2 h3 h4 h5 hn hi
  have HK := Lib.hid hK
  have HBG := Lib.hid hBG
  have HTW := Lib.hid hT
  have HDA := Lib.hid hd
  have HDO := Lib.hid hdok
  have HDI : Hid (dd.int.length ≤ 100) := Lib.hid (by omega)
  have HDF : Hid (dd.frac.length ≤ 100) := Lib.hid (by omega)
  have HIL := Lib.hid (items_le hK.both (d := dd) (by omega) (by omega))
  have HSN : Hid ((stopsP (itemsF (locOf r p) dd) (ahead (locOf r p) dd.neg).length).length = (atomsF dd).length + 1) := Lib.hid (stops_len hdok)
  have HUP := Lib.hid (stops_up hK.both hdok)
  have hal : (atomsF dd).length ≤ 19 := by rw [atoms_len]; split <;> omega
  have HLV : Hid (∀ W, Ext w W → Calls Tryz.prog 37 #[] W fun e w' => e = .returned (.bool true) ∧ Ext W w') := Lib.hid fun W hW => lives16 W (HTW.out.ext hW)
  have b1 := (Box.new w 23 [.int .i64 v0, .int .i64 v1, .int .i64 v2, .int .i64 v3, .int .i64 v4, .int .i64 v5]).alloc (.cells ([.bool d0.neg, .slice A0 d0.int.length c0, .bool d0.sep, .slice B0 d0.frac.length e0] : List Value).toArray 26)
  have c1 := Box.new (w.alloc (.cells ([.int .i64 v0, .int .i64 v1, .int .i64 v2, .int .i64 v3, .int .i64 v4, .int .i64 v5] : List Value).toArray 23)) 26 [.bool d0.neg, .slice A0 d0.int.length c0, .bool d0.sep, .slice B0 d0.frac.length e0]
  have hs1 : (w.alloc (.cells ([.int .i64 v0, .int .i64 v1, .int .i64 v2, .int .i64 v3, .int .i64 v4, .int .i64 v5] : List Value).toArray 23)).heap.size = w.heap.size + 1 := by simp
  rw [hs1] at c1
  have hx1 : Ext w ((w.alloc (.cells ([.int .i64 v0, .int .i64 v1, .int .i64 v2, .int .i64 v3, .int .i64 v4, .int .i64 v5] : List Value).toArray 23)).alloc (.cells ([.bool d0.neg, .slice A0 d0.int.length c0, .bool d0.sep, .slice B0 d0.frac.length e0] : List Value).toArray 26)) := Ext.alloc_ (Ext.alloc_ (Ext.refl w) _) _
  have HRG := Lib.hid b1.range
  have HRD := Lib.hid c1.range
  have HX1 := Lib.hid hx1
  clear hK hBG hd hi hT b1 c1 hs1 hx1 h0 h1 h2 h3 h4 h5 hn hdok
  go_enter Tryz.func10, Tryz.ntmps10
  go_upto_region 1 with fail
  change Code.wp _ _ _ _ ((w.alloc (.cells ([.int .i64 v0, .int .i64 v1, .int .i64 v2, .int .i64 v3, .int .i64 v4, .int .i64 v5] : List Value).toArray 23)).alloc (.cells ([.bool d0.neg, .slice A0 d0.int.length c0, .bool d0.sep, .slice B0 d0.frac.length e0] : List Value).toArray 26))
  generalize (w.alloc (.cells ([.int .i64 v0, .int .i64 v1, .int .i64 v2, .int .i64 v3, .int .i64 v4, .int .i64 v5] : List Value).toArray 23)).alloc (.cells ([.bool d0.neg, .slice A0 d0.int.length c0, .bool d0.sep, .slice B0 d0.frac.length e0] : List Value).toArray 26) = w1 at *
  generalize w.heap.size + 1 = db0 at *
  go_upto_region 2 with (first
    | (refine wpList_load_mid rfl 23 (.tmp 3) rfl w.heap.size 0 rfl [.int .i64 v0, .int .i64 v1, .int .i64 v2, .int .i64 v3, .int .i64 v4, .int .i64 v5] _ HRG.out Tryz.underlying23 rfl infoG ?_)
    | (refine wpList_load_mid rfl 26 (.tmp 5) rfl db0 0 rfl [.bool d0.neg, .slice A0 d0.int.length c0, .bool d0.sep, .slice B0 d0.frac.length e0] _ HRD.out Tryz.underlying26 rfl infoD14 ?_)
    | (go_at_call 30; with_reducible refine (HBG.out _ (HTW.out.ext HX1.out) (HDA.out.ext HX1.out)).mono ?_; rintro e w2 ⟨vb, E, cE, F, cF, A, B, C, D, c, d, a, b, X, Y, cx, cy, rfl, hvw, hpt, hcap, hdr, oX, oY, ⟨g, A', B', C', D', c', d', a', b', hLR⟩, hx2⟩; have hz1 := (Box.new w2 34 zero17).alloc (.cells zeroD.toArray 26); have hz2 := box_two w2 34 26 zero17 zeroD; have hz3 := hz2.other (k := w2.heap.size) (by omega) (refLV A B C D c d a b r p).toArray)
    | (refine wpList_store_row rfl 34 (.tmp 8) (.tmp 20) rfl w2.heap.size (refLV A B C D c d a b r p).toArray rfl rfl _ _ hz1 infoRL rfl (refL_one A B C D c d a b r p) ?_)
    | (refine wpList_store_row rfl 26 (.tmp 9) (.tmp 21) rfl (w2.heap.size + 1) ([.bool dd.neg, .slice X dd.int.length cx, .bool dd.sep, .slice Y dd.frac.length cy] : List Value).toArray rfl rfl _ _ hz3 infoD14 rfl (by simp [Value.oneCell']) ?_))
  have hx3 : Ext w2 ((((w2.alloc (.cells zero17.toArray 34)).alloc (.cells zeroD.toArray 26)).setRow w2.heap.size (refLV A B C D c d a b r p).toArray).setRow (w2.heap.size + 1) ([.bool dd.neg, .slice X dd.int.length cx, .bool dd.sep, .slice Y dd.frac.length cy] : List Value).toArray) := Ext.setRow (Ext.setRow (Ext.alloc_ (Ext.alloc_ (Ext.refl _) _) _) (Nat.le_refl _) _) (Nat.le_succ _) _
  have hb3 : Box ((((w2.alloc (.cells zero17.toArray 34)).alloc (.cells zeroD.toArray 26)).setRow w2.heap.size (refLV A B C D c d a b r p).toArray).setRow (w2.heap.size + 1) ([.bool dd.neg, .slice X dd.int.length cx, .bool dd.sep, .slice Y dd.frac.length cy] : List Value).toArray) w2.heap.size 34 (refLV A B C D c d a b r p) := (hz1.set (refLV A B C D c d a b r p).toArray).other (by omega) _
  have hc3 : Box ((((w2.alloc (.cells zero17.toArray 34)).alloc (.cells zeroD.toArray 26)).setRow w2.heap.size (refLV A B C D c d a b r p).toArray).setRow (w2.heap.size + 1) ([.bool dd.neg, .slice X dd.int.length cx, .bool dd.sep, .slice Y dd.frac.length cy] : List Value).toArray) (w2.heap.size + 1) 26 [.bool dd.neg, .slice X dd.int.length cx, .bool dd.sep, .slice Y dd.frac.length cy] := hz3.set ([.bool dd.neg, .slice X dd.int.length cx, .bool dd.sep, .slice Y dd.frac.length cy] : List Value).toArray
  change Code.wp _ _ _ _ ((((w2.alloc (.cells zero17.toArray 34)).alloc (.cells zeroD.toArray 26)).setRow w2.heap.size (refLV A B C D c d a b r p).toArray).setRow (w2.heap.size + 1) ([.bool dd.neg, .slice X dd.int.length cx, .bool dd.sep, .slice Y dd.frac.length cy] : List Value).toArray)
  have HVW := Lib.hid (hvw.ext hx3)
  have HPT := Lib.hid (hpt.ext hx3)
  have HDR := Lib.hid (hdr.ext hx3)
  have HLR := Lib.hid (hLR.ext hx3)
  have HX3 := Lib.hid (HX1.out.trans (hx2.trans hx3))
  have HCAP := Lib.hid hcap
  have HOX := Lib.hid oX
  have HOY := Lib.hid oY
  generalize (((w2.alloc (.cells zero17.toArray 34)).alloc (.cells zeroD.toArray 26)).setRow w2.heap.size (refLV A B C D c d a b r p).toArray).setRow (w2.heap.size + 1) ([.bool dd.neg, .slice X dd.int.length cx, .bool dd.sep, .slice Y dd.frac.length cy] : List Value).toArray = w3 at *
  generalize w2.heap.size + 1 = db at *
  generalize w2.heap.size = lb at *
  have HLB := Lib.hid hb3
  have HDB := Lib.hid hc3
  have HRL : Hid (w3.rangeAt lb 0 [.string ⟨r.name.toArray⟩, .string ⟨r.pattern.toArray⟩, .string ⟨r.system.toArray⟩, .string ⟨r.decimal.toArray⟩, .string ⟨r.group.toArray⟩, .string ⟨r.minus.toArray⟩, .string ⟨r.percent.toArray⟩, .string ⟨r.currency.toArray⟩, .slice A p.pre.length c, .slice B p.suf.length d, .slice C p.npre.length a, .slice D p.nsuf.length b, .int .i64 p.num.prim, .int .i64 p.num.sec, .int .i64 p.num.minInt, .int .i64 p.num.minFrac, .int .i64 p.num.maxFrac]) := Lib.hid hb3.range
  have HRE : Hid (w3.rangeAt db 0 [.bool dd.neg, .slice X dd.int.length cx, .bool dd.sep, .slice Y dd.frac.length cy]) := Lib.hid hc3.range
  clear hz1 hz2 hz3 hb3 hc3 hx2 hx3 hvw hpt hcap hdr oX oY hLR HRG HRD HBG
  have HAT : Hid (∀ W, Ext w3 W → Calls Tryz.prog 18 #[.agg ([.bool dd.neg, .slice X dd.int.length cx, .bool dd.sep, .slice Y dd.frac.length cy] : List Value).toArray] W fun e w' => ∃ F c', e = .returned (.slice F (atomsF dd).length c') ∧ Ext W w') := Lib.hid fun W hW =>
    (ref14_atoms X Y cx cy dd W (HDR.out.ext hW) HOX.out HOY.out HDI.out HDF.out).mono fun e w' ⟨F, c', h1, h2⟩ => ⟨F, c', h1, h2.ext⟩
  generalize hL : itemsF (locOf r p) dd = L at *
  generalize hS : stopsP L (ahead (locOf r p) dd.neg).length = S at *
  have HST : Hid (∀ W (k : Nat), Ext w3 W → k < S.length → Calls Tryz.prog 32 #[.pointer (some ⟨vb, 0, none⟩), .int .i64 (k : Int)] W fun e w' => e = .returned (.tuple #[.int .i64 ((S.getD k 0 : Nat) : Int), .bool true]) ∧ W = w') := Lib.hid fun W k hW hk => by
    have hh := view_stop (HVW.out.ext hW) (k : Int) ⟨by omega, by have := HSN.out; omega⟩
    have e1 : stopZ S (k : Int) = ((S.getD k 0 : Nat) : Int) := by unfold stopZ; rw [if_pos (by omega)]; rfl
    have e2 : inZ S (k : Int) = true := by unfold inZ; rw [decide_eq_true_iff]; omega
    rw [e1, e2] at hh
    exact hh
  have HA1 : Hid (∀ W (k : Nat), Ext w3 W → k < S.length → Calls Tryz.prog 40 #[.pointer (some ⟨vb, 0, none⟩), .int .i64 ((S.getD k 0 : Nat) : Int)] W fun e w' => e = .returned (.int .i64 (k : Int)) ∧ Ext W w') := Lib.hid fun W k hW hk => by
    have hh := view_atom (HVW.out.ext hW) ((S.getD k 0 : Nat) : Int) (intsN_up HUP.out) (by have := HSN.out; omega)
    rw [near_self HUP.out hk] at hh
    exact hh
  have HA2 : Hid (∀ W (k : Nat), Ext w3 W → 0 < k → k < S.length → Calls Tryz.prog 40 #[.pointer (some ⟨vb, 0, none⟩), .int .i64 (((S.getD k 0 : Nat) : Int) - 1)] W fun e w' => e = .returned (.int .i64 ((k : Int) - 1)) ∧ Ext W w') := Lib.hid fun W k hW hk0 hk => by
    have hh := view_atom (HVW.out.ext hW) (((S.getD k 0 : Nat) : Int) - 1) (intsN_up HUP.out) (by have := HSN.out; omega)
    rw [near_pre HUP.out hk0 hk] at hh
    exact hh
  have HLN : Hid (∀ W, Ext w3 W → Calls Tryz.prog 35 #[.pointer (some ⟨vb, 0, none⟩)] W fun e w' => e = .returned (.int .i64 ((S.length : Int) - 1)) ∧ W = w') := Lib.hid fun W hW => view_len (HVW.out.ext hW) (by have := HSN.out; omega) (by have := HSN.out; omega)
  have HSB : Hid (∀ k, k < S.length → S.getD k 0 ≤ 400000) := Lib.hid fun k hk => by
    have h1 := stops_le (r := r) (p := p) (d := dd) (v := S.getD k 0) (by rw [hL, hS]; exact getD_mem hk)
    have h2 := HIL.out.2.2
    rw [hL] at h1
    omega
  clear hL hS
  generalize hNA : (atomsF dd).length = NA at *
  have HNA := Lib.hid hNA
  clear hNA
  go_upto_region 5 with (first
    | (refine wpList_load_mid rfl 26 (.tmp 9) rfl db 0 rfl [.bool dd.neg, .slice X dd.int.length cx, .bool dd.sep, .slice Y dd.frac.length cy] _ HRE.out Tryz.underlying26 rfl infoD14 ?_)
    | (go_at_call 18; with_reducible refine (HAT.out _ (Ext.refl _)).mono ?_; rintro e w4 ⟨G, cG, rfl, hx4⟩))
  have HX4 := Lib.hid hx4
  clear hx4
  go_upto_region 6 with fail
  go_wp2
  go_loopw [11, 12, 13] (fun i _ _ wr => ∃ k : Nat, k ≤ NA + 1 ∧ i = .int .i64 k ∧ Ext w4 wr) (fun i _ _ _ => NA + 1 - (intOf i).toNat)
  case atStart => exact ⟨0, Nat.zero_le _, rfl, Ext.refl _⟩
  case round =>
    obtain ⟨k, hk, rfl, hx⟩ := hrel
    by_cases hlt : k ≤ NA
    · have hks : k < S.length := by have := HSN.out; omega
      have hx3 := HX4.out.trans hx
      have HSX := Lib.hid (fun W hW => HST.out W k (hx3.trans hW) hks)
      have HAX := Lib.hid (fun W hW => HA1.out W k (hx3.trans hW) hks)
      have HAY := Lib.hid (fun W hW h0 => HA2.out W k (hx3.trans hW) h0 hks)
      have hsb := HSB.out k hks
      generalize S.getD k 0 = v at *
      have HX := Lib.hid hx
      have i1 : (k : Int) ≤ (NA : Int) := by omega
      have bk : ((k : Int) != (k : Int)) = false := by simp
      clear hx hx3 hks
      by_cases h0 : k = 0
      · have i2 : ¬ ((k : Int) > 0) := by omega
        clear h0
        go_wp2_with (first
          | (go_at_call 32; with_reducible refine (HSX.out _ (Ext.refl _)).mono ?_; rintro e w5 ⟨rfl, rfl⟩)
          | (go_at_call 40; with_reducible refine (HAX.out _ (Ext.refl _)).mono ?_; rintro e w6 ⟨rfl, hx6⟩))
        go_roundw
        case rel => exact ⟨k + 1, by omega, by go_num, HX.out.trans hx6⟩
        case measure => simp [intOf]; omega
      · have i2 : (k : Int) > 0 := by omega
        have HAZ := Lib.hid (fun W hW => HAY.out W hW (by omega))
        have bk2 : ((k : Int) - 1 != (k : Int) - 1) = false := by simp
        go_wp2_with (first
          | (go_at_call 32; with_reducible refine (HSX.out _ (Ext.refl _)).mono ?_; rintro e w5 ⟨rfl, rfl⟩)
          | (go_at_call 40; with_reducible refine (HAX.out _ (Ext.refl _)).mono ?_; rintro e w6 ⟨rfl, hx6⟩)
          | (go_at_call 40; with_reducible refine (HAZ.out _ hx6).mono ?_; rintro e w7 ⟨rfl, hx7⟩))
        go_roundw
        case rel => exact ⟨k + 1, by omega, by go_num, HX.out.trans (hx6.trans hx7)⟩
        case measure => simp [intOf]; omega
    · have e : k = NA + 1 := by omega
      subst e
      have i1 : ¬ (((NA + 1 : Nat) : Int) ≤ (NA : Int)) := by omega
      have i2 : ¬ ((NA : Int) + 1 ≤ (NA : Int)) := by omega
      have hsl : (S.length : Int) - 1 = (NA : Int) := by have := HSN.out; omega
      have HLX : Hid (∀ W, Ext w3 W → Calls Tryz.prog 35 #[.pointer (some ⟨vb, 0, none⟩)] W fun e w' => e = .returned (.int .i64 (NA : Int)) ∧ W = w') := Lib.hid fun W hW => by
        have hh := HLN.out W hW
        rwa [hsl] at hh
      have bn : ((NA : Int) == (NA : Int)) = true := by simp
      have HX := Lib.hid (HX4.out.trans hx)
      clear hx hsl
      go_wp2_with (first
        | (go_at_call 35; with_reducible refine (HLX.out _ HX.out).mono ?_; rintro e w5 ⟨rfl, rfl⟩)
        | (go_at_call 37; with_reducible refine (HLV.out _ (HX3.out.trans HX.out)).mono ?_; rintro e w6 ⟨rfl, hx6⟩))
      go_ret
      exact ⟨rfl, HX3.out.trans (HX.out.trans hx6)⟩
end Go.Proofs.YthoicieckodneaaGreatDoor.Loc
