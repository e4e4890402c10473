/- The law ItemAtoms: the atoms of a draft are its items, each once, in their row, with their digits. (Printed by wip/gen/law15.py.) -/
import Derived.Test.YthoicieckodneaaGreatDoorItW5
namespace Go.Proofs.YthoicieckodneaaGreatDoor.Loc
open Go.RowKit Utf All Small Strs Build EncC Pat Cls Dec Go.Proofs.YthoicieckodneaaGreatDoor.Sys
set_option linter.unusedVariables false
set_option linter.unusedSimpArgs false
theorem at_take (l : List It) {k : Nat} (hk : k < l.length) : (l.take (k + 1)).countP isAt = (l.take k).countP isAt + (if isAt l[k] then 1 else 0) := by
  rw [List.take_succ_eq_append_getElem hk, List.countP_append]
  by_cases h : isAt l[k] = true <;> simp [h]
set_option maxHeartbeats 16000000 in
set_option maxRecDepth 1000000 in
theorem law_ItemAtoms (v0 v1 v2 v3 v4 v5 n : Int) (A0 B0 : Option Addr) (c0 e0 : Nat) (d0 : Dr) (w : World) (h0 : i64 v0) (h1 : i64 v1) (h2 : i64 v2) (h3 : i64 v3) (h4 : i64 v4) (h5 : i64 v5) (hn : i64 n) (hd : DrR w A0 B0 d0) (hi : DrI d0) (hT : Tabs w) :
    Calls Tryz.prog 4 #[.agg ([.int .i64 v0, .int .i64 v1, .int .i64 v2, .int .i64 v3, .int .i64 v4, .int .i64 v5] : List Value).toArray, .int .i64 n, .agg ([.bool d0.neg, .slice A0 d0.int.length c0, .bool d0.sep, .slice B0 d0.frac.length e0] : List Value).toArray] w fun e w' => e = .returned (.bool true) ∧ Below w.heap.size w w' := by
  obtain ⟨r, p, hK, hBG⟩ := begin15 v0 v1 v2 v3 v4 v5 n h0 h1 h2 h3 h4 h5 hn
  obtain ⟨dd, hdok, hdi, hdf, hGd⟩ : ∃ dd : Dr, DrOk dd ∧ dd.int.length ≤ 100 ∧ dd.frac.length ≤ 100 ∧ ∀ W, Ext w W → Calls Tryz.prog 15 #[.agg ([.bool d0.neg, .slice A0 d0.int.length c0, .bool d0.sep, .slice B0 d0.frac.length e0] : List Value).toArray, .int .i64 14, .int .i64 6] W fun e w' => ∃ X Y cx cy, e = .returned (.agg ([.bool dd.neg, .slice X dd.int.length cx, .bool dd.sep, .slice Y dd.frac.length cy] : List Value).toArray) ∧ DrR w' X Y dd ∧ Okc X cx ∧ Okc Y cy ∧ Ext W w' :=
    ⟨goodD d0 14 6, good_ok _ _ _, by have := good_intl d0 14 6; omega, by have := good_fracl d0 14 6; omega, fun W hW => ref14_good A0 B0 c0 e0 d0 14 6 W (hd.ext hW) hi (by decide) (by decide)⟩
  have HK := Lib.hid hK
  have HBG := Lib.hid hBG
  have HTW := Lib.hid hT
  have HGD := Lib.hid hGd
  have HDO := Lib.hid hdok
  have b1 := (Box.new w 23 [.int .i64 v0, .int .i64 v1, .int .i64 v2, .int .i64 v3, .int .i64 v4, .int .i64 v5]).alloc (.cells ([.bool d0.neg, .slice A0 d0.int.length c0, .bool d0.sep, .slice B0 d0.frac.length e0] : List Value).toArray 26)
  have c1 := Box.new (w.alloc (.cells ([.int .i64 v0, .int .i64 v1, .int .i64 v2, .int .i64 v3, .int .i64 v4, .int .i64 v5] : List Value).toArray 23)) 26 [.bool d0.neg, .slice A0 d0.int.length c0, .bool d0.sep, .slice B0 d0.frac.length e0]
  have hs1 : (w.alloc (.cells ([.int .i64 v0, .int .i64 v1, .int .i64 v2, .int .i64 v3, .int .i64 v4, .int .i64 v5] : List Value).toArray 23)).heap.size = w.heap.size + 1 := by simp
  rw [hs1] at c1
  have hx1 : Ext w ((w.alloc (.cells ([.int .i64 v0, .int .i64 v1, .int .i64 v2, .int .i64 v3, .int .i64 v4, .int .i64 v5] : List Value).toArray 23)).alloc (.cells ([.bool d0.neg, .slice A0 d0.int.length c0, .bool d0.sep, .slice B0 d0.frac.length e0] : List Value).toArray 26)) := Ext.alloc_ (Ext.alloc_ (Ext.refl w) _) _
  have HRG := Lib.hid b1.range
  have HRD := Lib.hid c1.range
  have HX1 := Lib.hid hx1
  clear hK hBG hGd hd hi hT b1 c1 hs1 hx1 h0 h1 h2 h3 h4 h5 hn hdok
  go_enter Tryz.func4, Tryz.ntmps4
  go_upto_region 1 with fail
  change Code.wp _ _ _ _ ((w.alloc (.cells ([.int .i64 v0, .int .i64 v1, .int .i64 v2, .int .i64 v3, .int .i64 v4, .int .i64 v5] : List Value).toArray 23)).alloc (.cells ([.bool d0.neg, .slice A0 d0.int.length c0, .bool d0.sep, .slice B0 d0.frac.length e0] : List Value).toArray 26))
  generalize (w.alloc (.cells ([.int .i64 v0, .int .i64 v1, .int .i64 v2, .int .i64 v3, .int .i64 v4, .int .i64 v5] : List Value).toArray 23)).alloc (.cells ([.bool d0.neg, .slice A0 d0.int.length c0, .bool d0.sep, .slice B0 d0.frac.length e0] : List Value).toArray 26) = w1 at *
  generalize w.heap.size + 1 = db0 at *
  go_upto_region 2 with (first
    | (refine wpList_load_mid rfl 23 (.tmp 3) rfl w.heap.size 0 rfl [.int .i64 v0, .int .i64 v1, .int .i64 v2, .int .i64 v3, .int .i64 v4, .int .i64 v5] _ HRG.out Tryz.underlying23 rfl infoG ?_)
    | (go_at_call 14; with_reducible refine (HBG.out _ (HTW.out.ext HX1.out)).mono ?_; rintro e w2 ⟨g, A', B', C', D', c', d', a', b', A, B, C, D, c, d, a, b, rfl, hLR, hpt, hcap, hx2⟩)
    | (refine wpList_store_fresh rfl 34 (.tmp 8) (.tmp 19) rfl (refLV A B C D c d a b r p).toArray 34 _ rfl rfl infoRL rfl (refL_one A B C D c d a b r p) ?_))
  have hb3 := Box.new w2 34 (refLV A B C D c d a b r p)
  have hx3 : Ext w2 (w2.alloc (.cells (refLV A B C D c d a b r p).toArray 34)) := Ext.alloc_ (Ext.refl _) _
  have HLR := Lib.hid (hLR.ext hx3)
  have HPT := Lib.hid (hpt.ext hx3)
  have HCAP := Lib.hid hcap
  have HX3 := Lib.hid (HX1.out.trans (hx2.trans hx3))
  have HRD3 := Lib.hid (Ext.range_ (hx2.trans hx3) HRD.out)
  generalize w2.alloc (.cells (refLV A B C D c d a b r p).toArray 34) = w3 at *
  generalize w2.heap.size = lb at *
  have HLB := Lib.hid hb3
  clear hb3 hx2 hx3 hpt hcap hLR HRG HRD HBG
  go_upto_region 5 with (first
    | (refine wpList_load_mid rfl 26 (.tmp 5) rfl db0 0 rfl [.bool d0.neg, .slice A0 d0.int.length c0, .bool d0.sep, .slice B0 d0.frac.length e0] _ HRD3.out Tryz.underlying26 rfl infoD14 ?_)
    | (go_at_call 15; with_reducible refine (HGD.out _ HX3.out).mono ?_; rintro e w4 ⟨X, Y, cx, cy, rfl, hdr, oX, oY, hx4⟩)
    | (refine wpList_store_fresh rfl 26 (.tmp 9) (.tmp 23) rfl ([.bool dd.neg, .slice X dd.int.length cx, .bool dd.sep, .slice Y dd.frac.length cy] : List Value).toArray 26 _ rfl rfl infoD14 rfl (by simp [Value.oneCell']) ?_))
  have hb5 := Box.new w4 26 [.bool dd.neg, .slice X dd.int.length cx, .bool dd.sep, .slice Y dd.frac.length cy]
  have hx5 : Ext w4 (w4.alloc (.cells ([.bool dd.neg, .slice X dd.int.length cx, .bool dd.sep, .slice Y dd.frac.length cy] : List Value).toArray 26)) := Ext.alloc_ (Ext.refl _) _
  have HX5 := Lib.hid (HX3.out.trans (hx4.trans hx5))
  have HLR5 := Lib.hid (HLR.out.ext (hx4.trans hx5))
  have HPT5 := Lib.hid (HPT.out.ext (hx4.trans hx5))
  have HLB5 := Lib.hid (HLB.out.ext (hx4.trans hx5))
  have HDR5 := Lib.hid (hdr.ext hx5)
  have HOX := Lib.hid oX
  have HOY := Lib.hid oY
  generalize w4.alloc (.cells ([.bool dd.neg, .slice X dd.int.length cx, .bool dd.sep, .slice Y dd.frac.length cy] : List Value).toArray 26) = w5 at *
  generalize w4.heap.size = db at *
  have HDB5 := Lib.hid hb5
  have HRDD := Lib.hid hb5.range
  have HIT : Hid (∀ W, Ext w5 W → Calls Tryz.prog 16 #[.pointer (some ⟨g, 0, none⟩), .agg ([.bool dd.neg, .slice X dd.int.length cx, .bool dd.sep, .slice Y dd.frac.length cy] : List Value).toArray] W fun e w' => ∃ E cE, e = .returned (.slice E (itemsF (locOf r p) dd).length cE) ∧ Row w' E (itsV (itemsF (locOf r p) dd)) ∧ Ext W w') := Lib.hid fun W hW =>
    (item_items g A' B' C' D' X Y c' d' a' b' cx cy dd (locOf r p) W (HLR5.out.ext hW) HK.out.both.may.b HK.out.num (HDR5.out.ext hW) hdi hdf).mono fun e w' ⟨E, cE, h1, h2⟩ => ⟨E, cE, h1, h2.row, h2.ext⟩
  have HIL := Lib.hid (items_le HK.out.both hdi hdf)
  clear hb5 hx4 hx5 hdr oX oY HLR HPT HLB HRD3 HGD
  go_upto_region 6 with (first
    | (refine wpList_load_mid rfl 26 (.tmp 9) rfl db 0 rfl [.bool dd.neg, .slice X dd.int.length cx, .bool dd.sep, .slice Y dd.frac.length cy] _ HRDD.out Tryz.underlying26 rfl infoD14 ?_)
    | (go_at_call 16; with_reducible refine (HIT.out _ (Ext.refl _)).mono ?_; rintro e w6 ⟨E, cE, rfl, hrE, hx6⟩))
  have HRE := Lib.hid hrE
  have HX6 := Lib.hid hx6
  clear hrE hx6
  have HLV := Lib.hid Ends.law15_lives
  have HAT : Hid (∀ W, Ext w5 W → Calls Tryz.prog 18 #[.agg ([.bool dd.neg, .slice X dd.int.length cx, .bool dd.sep, .slice Y dd.frac.length cy] : List Value).toArray] W fun e w' => ∃ F c', e = .returned (.slice F (atomsF dd).length c') ∧ Row w' F ((atomsF dd).map (Value.int .i64)) ∧ Ext W w') := Lib.hid fun W hW =>
    (ref14_atoms X Y cx cy dd W (HDR5.out.ext hW) HOX.out HOY.out hdi hdf).mono fun e w' ⟨F, c', h1, h2⟩ => ⟨F, c', h1, h2.row, h2.ext⟩
  have HNO : Hid (∀ i x, (itemsF (locOf r p) dd)[i]? = some x → isAt x = false → x.2.2 = -1) := Lib.hid fun i x hx ha => items_none (List.mem_of_getElem? hx) ha
  have HIA : Hid (∀ i x, (itemsF (locOf r p) dd)[i]? = some x → isAt x = true → ((itemsF (locOf r p) dd).take i).countP isAt < (atomsF dd).length ∧ x.2.2 = (((itemsF (locOf r p) dd).take i).countP isAt : Int) ∧ (x.1 = 2 ∨ x.1 = 4) ∧ signZ (locOf r p) ⟨x.2.1.toArray⟩ = (atomsF dd).getD (((itemsF (locOf r p) dd).take i).countP isAt) 0 ∧ findZ (itemsF (locOf r p) dd) (((itemsF (locOf r p) dd).take i).countP isAt : Nat) = (i : Int)) := Lib.hid fun i x hx ha => by
    obtain ⟨h1, h2⟩ := items_at HDO.out hx ha
    refine ⟨h1, ?_, ?_, ?_, find_at HDO.out hx ha⟩
    · rw [h2]; exact atomI_at _ _ _
    · rw [h2]; exact atomI_tag _ _ _
    · rw [h2]; exact atom_sign HK.out.both HDO.out h1
  have HFN : Hid (findZ (itemsF (locOf r p) dd) ((atomsF dd).length : Nat) = -1) := Lib.hid (find_none HDO.out)
  have HCT : Hid ((itemsF (locOf r p) dd).countP isAt = (atomsF dd).length) := Lib.hid (items_count HDO.out)
  have HSI : Hid (∀ (s : ByteArray) W, Calls Tryz.prog 19 #[.agg ([.string ⟨r.name.toArray⟩, .string ⟨r.pattern.toArray⟩, .string ⟨r.system.toArray⟩, .string ⟨r.decimal.toArray⟩, .string ⟨r.group.toArray⟩, .string ⟨r.minus.toArray⟩, .string ⟨r.percent.toArray⟩, .string ⟨r.currency.toArray⟩, .slice A p.pre.length c, .slice B p.suf.length d, .slice C p.npre.length a, .slice D p.nsuf.length b, .int .i64 p.num.prim, .int .i64 p.num.sec, .int .i64 p.num.minInt, .int .i64 p.num.minFrac, .int .i64 p.num.maxFrac] : List Value).toArray, .string s] W fun e w' => e = .returned (.int .i64 (signZ (locOf r p) s)) ∧ Ext W w') := Lib.hid fun s W => ref_sign A B C D c d a b r p s W HK.out.both
  have hal : (atomsF dd).length ≤ 201 := by rw [atoms_len]; split <;> omega
  have HRL6 : Hid (w6.rangeAt lb 0 [.string ⟨r.name.toArray⟩, .string ⟨r.pattern.toArray⟩, .string ⟨r.system.toArray⟩, .string ⟨r.decimal.toArray⟩, .string ⟨r.group.toArray⟩, .string ⟨r.minus.toArray⟩, .string ⟨r.percent.toArray⟩, .string ⟨r.currency.toArray⟩, .slice A p.pre.length c, .slice B p.suf.length d, .slice C p.npre.length a, .slice D p.nsuf.length b, .int .i64 p.num.prim, .int .i64 p.num.sec, .int .i64 p.num.minInt, .int .i64 p.num.minFrac, .int .i64 p.num.maxFrac]) := Lib.hid (HLB5.out.ext HX6.out).range
  have HRD6 := Lib.hid (Ext.range_ HX6.out HRDD.out)
  have HIL2 := HIL.out.1
  generalize hL : itemsF (locOf r p) dd = L at *
  generalize hN : L.length = N at *
  have HN := Lib.hid hN
  have HTK : Hid (L.take N = L) := Lib.hid (by rw [← hN, List.take_length])
  clear hN hL
  have HFI : Hid (∀ W k, Ext w6 W → Calls Tryz.prog 20 #[.slice E N cE, .int .i64 k] W fun e w' => e = .returned (.int .i64 (findZ L k)) ∧ Ext W w') := Lib.hid fun W k hW => item_find E N cE k L W (HRE.out.below hW (Nat.le_refl _)) HN.out (by omega)
  generalize hAL : atomsF dd = AL at *
  clear hAL
  go_upto_region 7 with (first
    | (refine wpList_load_mid rfl 26 (.tmp 9) rfl db 0 rfl [.bool dd.neg, .slice X dd.int.length cx, .bool dd.sep, .slice Y dd.frac.length cy] _ HRD6.out Tryz.underlying26 rfl infoD14 ?_)
    | (go_at_call 18; with_reducible refine (HAT.out _ HX6.out).mono ?_; rintro e w7 ⟨F, cF, rfl, hrF, hx7⟩))
  have HRF := Lib.hid hrF
  have HX7 := Lib.hid hx7
  have HRL7 := Lib.hid (Ext.range_ hx7 HRL6.out)
  generalize hNA : AL.length = NA at *
  have HNA := Lib.hid hNA
  clear hrF hx7 hNA HIT HRDD HDB5 HAT
  go_upto_region 9 with fail
  go_wp2
  go_loopw [12, 13] (fun m i wr => ∃ k : Nat, k ≤ N ∧ i = .int .i64 k ∧ m = .int .i64 ((L.take k).countP isAt) ∧ (L.take k).countP isAt ≤ k ∧ Ext w7 wr) (fun _ i _ => N - (intOf i).toNat)
  case atStart => exact ⟨0, Nat.zero_le _, rfl, rfl, by simp, Ext.refl _⟩
  case round =>
    obtain ⟨k, hk, rfl, rfl, hks, hx⟩ := hrel
    by_cases hlt : k < N
    · have hkl : k < L.length := by have := HN.out; omega
      obtain ⟨bx, ox, hEe, hg⟩ := row_it (HRE.out.below (HX7.out.trans hx) (Nat.le_refl _)) hkl
      have HST := Lib.hid (at_take L hkl)
      have hno := HNO.out k _ (List.getElem?_eq_getElem hkl)
      have hia := HIA.out k _ (List.getElem?_eq_getElem hkl)
      have HFI2 : Hid (∀ W j, Ext wr W → Calls Tryz.prog 20 #[.slice (some ⟨bx, ox, none⟩) N cE, .int .i64 j] W fun e w' => e = .returned (.int .i64 (findZ L j)) ∧ Ext W w') := Lib.hid fun W j hW => by
        have := HFI.out W j (HX7.out.trans (hx.trans hW))
        rwa [hEe] at this
      subst hEe
      generalize L[k] = x at *
      obtain ⟨tg, t, at_⟩ := x
      simp only at hg hno hia
      have c0 : wr.cell? ⟨bx, ox + k * 3, none⟩ = some (.int .i64 tg) := hg 0 _ rfl
      have c1 : wr.cell? ⟨bx, ox + k * 3 + 1, none⟩ = some (.string ⟨t.toArray⟩) := hg 1 _ rfl
      have c2 : wr.cell? ⟨bx, ox + k * 3 + 2, none⟩ = some (.int .i64 at_) := hg 2 _ rfl
      have i1 : (k : Int) < (N : Int) := by omega
      have i2 : (0 : Int) ≤ (k : Int) := by omega
      have HX := Lib.hid hx
      clear hg hx
      generalize (L.take k).countP isAt = m at *
      cases hia' : isAt (tg, t, at_)
      · have HS2 : Hid ((L.take (k + 1)).countP isAt = m) := Lib.hid (by rw [HST.out, hia']; rfl)
        obtain rfl := hno hia'
        have hb : tg ≠ 2 ∧ tg ≠ 4 := by unfold isAt at hia'; simpa using hia'
        have b2 : (tg != 2) = true := by simpa using hb.1
        have b4 : (tg != 4) = true := by simpa using hb.2
        have bm : ((-1 : Int) != -1) = false := rfl
        clear HST hno hia hia' hb
        go_wp2
        go_roundw
        case rel => exact ⟨k + 1, by omega, by go_num, by rw [HS2.out], by rw [HS2.out]; omega, HX.out⟩
        case measure => simp [intOf]; omega
      · have HS2 : Hid ((L.take (k + 1)).countP isAt = m + 1) := Lib.hid (by rw [HST.out, hia']; rfl)
        obtain ⟨hlm, rfl, htg, hsg, hfd⟩ := hia hia'
        have hma : m < AL.length := by have := HNA.out; omega
        obtain ⟨fb, fo, rfl, hc⟩ := row_ints (HRF.out.below HX.out (Nat.le_refl _)) hma
        have HSG : Hid (signZ (locOf r p) ⟨t.toArray⟩ = AL.getD m 0) := Lib.hid hsg
        have HFD : Hid (findZ L (m : Nat) = (k : Int)) := Lib.hid hfd
        generalize AL.getD m 0 = y at *
        have bm : ((m : Int) != (m : Int)) = false := by simp
        have bk : ((k : Int) != (k : Int)) = false := by simp
        have by_ : (y != y) = false := by simp
        have i3 : (m : Int) < (NA : Int) := by omega
        have i4 : (0 : Int) ≤ (m : Int) := by omega
        have i5 : ¬ ((m : Int) ≥ (NA : Int)) := by omega
        have HRLr := Lib.hid (Ext.range_ HX.out HRL7.out)
        clear HST hno hia hia' hsg hfd hlm hma
        rcases htg with rfl | rfl
        · have b2 : ((2 : Int) != 2) = false := rfl
          go_upto_region 16 with fail
          refine wp_region_noPanic ?_
          refine wp_region_held_drew (S := fun W => Ext wr W ∧ W.rangeAt lb 0 [.string ⟨r.name.toArray⟩, .string ⟨r.pattern.toArray⟩, .string ⟨r.system.toArray⟩, .string ⟨r.decimal.toArray⟩, .string ⟨r.group.toArray⟩, .string ⟨r.minus.toArray⟩, .string ⟨r.percent.toArray⟩, .string ⟨r.currency.toArray⟩, .slice A p.pre.length c, .slice B p.suf.length d, .slice C p.npre.length a, .slice D p.nsuf.length b, .int .i64 p.num.prim, .int .i64 p.num.sec, .int .i64 p.num.minInt, .int .i64 p.num.minFrac, .int .i64 p.num.maxFrac] ∧ W.cell? ⟨bx, ox + k * 3 + 1, none⟩ = some (.string ⟨t.toArray⟩) ∧ W.cell? ⟨fb, fo + m, none⟩ = some (.int .i64 y)) (by kernel_rfl) ?_ (fun hHeld => ?_)
          · exact ⟨Ext.drew_ (Ext.refl _), HRLr.out, c1, hc⟩
          refine takeRow_ (cs := [.string ⟨r.name.toArray⟩, .string ⟨r.pattern.toArray⟩, .string ⟨r.system.toArray⟩, .string ⟨r.decimal.toArray⟩, .string ⟨r.group.toArray⟩, .string ⟨r.minus.toArray⟩, .string ⟨r.percent.toArray⟩, .string ⟨r.currency.toArray⟩, .slice A p.pre.length c, .slice B p.suf.length d, .slice C p.npre.length a, .slice D p.nsuf.length b, .int .i64 p.num.prim, .int .i64 p.num.sec, .int .i64 p.num.minInt, .int .i64 p.num.minFrac, .int .i64 p.num.maxFrac]) 0 rfl (by kernel_rfl) (by kernel_rfl) (by kernel_rfl) (fun _ _ _ h => h) hHeld (by rfl) 34 ((.tmp 8)) rfl lb (0) rfl _ (fun _ h => h.2.1) Tryz.underlying34 rfl infoRL ?_
          try simp only [Act.put, List.setIfInBounds_toArray, List.set_cons_zero, List.set_cons_succ]
          refine take_ 1 (v := ?_) rfl (by kernel_rfl) (by kernel_rfl) (by kernel_rfl) (fun _ _ _ h => h) hHeld (by rfl) ?_ ?_
          rotate_left 1
          · (intro w hSw; (try dsimp only at hSw); go_simp; all_goals with_reducible rfl)
          try simp only [Act.put, List.setIfInBounds_toArray, List.set_cons_zero, List.set_cons_succ]
          refine take_ 2 (v := ?_) rfl (by kernel_rfl) (by kernel_rfl) (by kernel_rfl) (fun _ _ _ h => h) hHeld (by rfl) ?_ ?_
          rotate_left 1
          · (intro w hSw; (try dsimp only at hSw); go_simp; all_goals with_reducible rfl)
          try simp only [Act.put, List.setIfInBounds_toArray, List.set_cons_zero, List.set_cons_succ]
          refine take_ 3 (v := ?_) rfl (by kernel_rfl) (by kernel_rfl) (by kernel_rfl) (fun _ _ _ h => h) hHeld (by rfl) ?_ ?_
          rotate_left 1
          · (intro w hSw; (try dsimp only at hSw); go_simp; all_goals with_reducible rfl)
          try simp only [Act.put, List.setIfInBounds_toArray, List.set_cons_zero, List.set_cons_succ]
          refine take_ 4 (v := ?_) rfl (by kernel_rfl) (by kernel_rfl) (by kernel_rfl) (fun _ _ _ h => h) hHeld (by rfl) ?_ ?_
          rotate_left 1
          · (intro w hSw; (try dsimp only at hSw); go_simp; all_goals with_reducible rfl)
          try simp only [Act.put, List.setIfInBounds_toArray, List.set_cons_zero, List.set_cons_succ]
          refine take_ 5 (v := ?_) rfl (by kernel_rfl) (by kernel_rfl) (by kernel_rfl) (fun _ _ _ h => h) hHeld (by rfl) ?_ ?_
          rotate_left 1
          · (intro w hSw; (try dsimp only at hSw); go_simp; all_goals with_reducible rfl)
          try simp only [Act.put, List.setIfInBounds_toArray, List.set_cons_zero, List.set_cons_succ]
          refine take_ 7 (v := ?_) rfl (by kernel_rfl) (by kernel_rfl) (by kernel_rfl) (fun _ _ _ h => h) hHeld (by rfl) ?_ ?_
          rotate_left 1
          · (intro w hSw; (try dsimp only at hSw); go_simp; all_goals with_reducible rfl)
          try simp only [Act.put, List.setIfInBounds_toArray, List.set_cons_zero, List.set_cons_succ]
          refine take_ 8 (v := ?_) rfl (by kernel_rfl) (by kernel_rfl) (by kernel_rfl) (fun _ _ _ h => h) hHeld (by rfl) ?_ ?_
          rotate_left 1
          · (intro w hSw; (try dsimp only at hSw); go_simp; all_goals with_reducible rfl)
          try simp only [Act.put, List.setIfInBounds_toArray, List.set_cons_zero, List.set_cons_succ]
          refine take_ 9 (v := ?_) rfl (by kernel_rfl) (by kernel_rfl) (by kernel_rfl) (fun _ _ _ h => h) hHeld (by rfl) ?_ ?_
          rotate_left 1
          · (intro w hSw; (try dsimp only at hSw); go_simp; all_goals with_reducible rfl)
          try simp only [Act.put, List.setIfInBounds_toArray, List.set_cons_zero, List.set_cons_succ]
          refine take_ 10 (v := ?_) rfl (by kernel_rfl) (by kernel_rfl) (by kernel_rfl) (fun _ _ _ h => h) hHeld (by rfl) ?_ ?_
          rotate_left 1
          · (intro w hSw; (try dsimp only at hSw); go_simp; all_goals with_reducible rfl)
          try simp only [Act.put, List.setIfInBounds_toArray, List.set_cons_zero, List.set_cons_succ]
          refine only_ 6 rfl (by kernel_rfl) (fun K1 hK1 => ?_)
          go_simp
          go_at_call 19
          refine (HSI.out _ _).mono ?_
          rintro e w8 ⟨rfl, hx8⟩
          rw [HSG.out]
          refine hK1.out _ _ (⟨hHeld.1.trans hx8, Ext.range_ hx8 hHeld.2.1, Ext.cell_ hx8 hHeld.2.2.1, Ext.cell_ hx8 hHeld.2.2.2⟩) (fun hHeld => ?_)
          clear hK1
          try simp only [Act.put, List.setIfInBounds_toArray, List.set_cons_zero, List.set_cons_succ]
          refine take_ 11 (v := ?_) rfl (by kernel_rfl) (by kernel_rfl) (by kernel_rfl) (fun _ _ _ h => h) hHeld (by rfl) ?_ ?_
          rotate_left 1
          · (intro w hSw; (try dsimp only at hSw); go_simp; all_goals with_reducible rfl)
          try simp only [Act.put, List.setIfInBounds_toArray, List.set_cons_zero, List.set_cons_succ]
          refine take_ 12 (v := ?_) rfl (by kernel_rfl) (by kernel_rfl) (by kernel_rfl) (fun _ _ _ h => h) hHeld (by rfl) ?_ ?_
          rotate_left 1
          · (intro w hSw; (try dsimp only at hSw); go_simp; all_goals with_reducible rfl)
          try simp only [Act.put, List.setIfInBounds_toArray, List.set_cons_zero, List.set_cons_succ]
          refine take_ 13 (v := ?_) rfl (by kernel_rfl) (by kernel_rfl) (by kernel_rfl) (fun _ _ _ h => h) hHeld (by rfl) ?_ ?_
          rotate_left 1
          · (intro w hSw; (try dsimp only at hSw); go_simp; all_goals with_reducible rfl)
          try simp only [Act.put, List.setIfInBounds_toArray, List.set_cons_zero, List.set_cons_succ]
          refine take_ 14 (v := ?_) rfl (by kernel_rfl) (by kernel_rfl) (by kernel_rfl) (fun _ _ _ h => h) hHeld (by rfl) ?_ ?_
          rotate_left 1
          · (intro w hSw; (try dsimp only at hSw); go_simp; all_goals with_reducible rfl)
          try simp only [Act.put, List.setIfInBounds_toArray, List.set_cons_zero, List.set_cons_succ]
          refine take_ 16 (v := ?_) rfl (by kernel_rfl) (by kernel_rfl) (by kernel_rfl) (fun _ _ _ h => h) hHeld (by rfl) ?_ ?_
          rotate_left 1
          · (intro w hSw; (try dsimp only at hSw); go_simp; all_goals with_reducible rfl)
          try simp only [Act.put, List.setIfInBounds_toArray, List.set_cons_zero, List.set_cons_succ]
          refine only_ 15 rfl (by kernel_rfl) (fun K1 hK1 => ?_)
          go_simp
          go_at_call 20
          refine (HFI2.out _ _ hHeld.1).mono ?_
          rintro e w9 ⟨rfl, hx9⟩
          rw [HFD.out]
          refine hK1.out _ _ (⟨hHeld.1.trans hx9, Ext.range_ hx9 hHeld.2.1, Ext.cell_ hx9 hHeld.2.2.1, Ext.cell_ hx9 hHeld.2.2.2⟩) (fun hHeld => ?_)
          clear hK1
          try simp only [Act.put, List.setIfInBounds_toArray, List.set_cons_zero, List.set_cons_succ]
          refine take_ 17 (v := ?_) rfl (by kernel_rfl) (by kernel_rfl) (by kernel_rfl) (fun _ _ _ h => h) hHeld (by rfl) ?_ ?_
          rotate_left 1
          · (intro w hSw; (try dsimp only at hSw); go_simp; all_goals with_reducible rfl)
          try simp only [Act.put, List.setIfInBounds_toArray, List.set_cons_zero, List.set_cons_succ]
          refine take_ 18 (v := ?_) rfl (by kernel_rfl) (by kernel_rfl) (by kernel_rfl) (fun _ _ _ h => h) hHeld (by rfl) ?_ ?_
          rotate_left 1
          · (intro w hSw; (try dsimp only at hSw); go_simp; all_goals with_reducible rfl)
          try simp only [Act.put, List.setIfInBounds_toArray, List.set_cons_zero, List.set_cons_succ]
          refine wpAnyH_done (by kernel_rfl) ?_ _
          refine NoPanic.normal ?_
          have HH := Lib.hid hHeld.1
          clear hHeld
          go_wp2
          go_roundw
          case rel => exact ⟨k + 1, by omega, by go_num, by rw [HS2.out]; go_num, by rw [HS2.out]; omega, HX.out.trans HH.out⟩
          case measure => simp [intOf]; omega
        · have b2 : ((4 : Int) != 2) = true := rfl
          have b4 : ((4 : Int) != 4) = false := rfl
          go_upto_region 16 with fail
          refine wp_region_noPanic ?_
          refine wp_region_held_drew (S := fun W => Ext wr W ∧ W.rangeAt lb 0 [.string ⟨r.name.toArray⟩, .string ⟨r.pattern.toArray⟩, .string ⟨r.system.toArray⟩, .string ⟨r.decimal.toArray⟩, .string ⟨r.group.toArray⟩, .string ⟨r.minus.toArray⟩, .string ⟨r.percent.toArray⟩, .string ⟨r.currency.toArray⟩, .slice A p.pre.length c, .slice B p.suf.length d, .slice C p.npre.length a, .slice D p.nsuf.length b, .int .i64 p.num.prim, .int .i64 p.num.sec, .int .i64 p.num.minInt, .int .i64 p.num.minFrac, .int .i64 p.num.maxFrac] ∧ W.cell? ⟨bx, ox + k * 3 + 1, none⟩ = some (.string ⟨t.toArray⟩) ∧ W.cell? ⟨fb, fo + m, none⟩ = some (.int .i64 y)) (by kernel_rfl) ?_ (fun hHeld => ?_)
          · exact ⟨Ext.drew_ (Ext.refl _), HRLr.out, c1, hc⟩
          refine takeRow_ (cs := [.string ⟨r.name.toArray⟩, .string ⟨r.pattern.toArray⟩, .string ⟨r.system.toArray⟩, .string ⟨r.decimal.toArray⟩, .string ⟨r.group.toArray⟩, .string ⟨r.minus.toArray⟩, .string ⟨r.percent.toArray⟩, .string ⟨r.currency.toArray⟩, .slice A p.pre.length c, .slice B p.suf.length d, .slice C p.npre.length a, .slice D p.nsuf.length b, .int .i64 p.num.prim, .int .i64 p.num.sec, .int .i64 p.num.minInt, .int .i64 p.num.minFrac, .int .i64 p.num.maxFrac]) 0 rfl (by kernel_rfl) (by kernel_rfl) (by kernel_rfl) (fun _ _ _ h => h) hHeld (by rfl) 34 ((.tmp 8)) rfl lb (0) rfl _ (fun _ h => h.2.1) Tryz.underlying34 rfl infoRL ?_
          try simp only [Act.put, List.setIfInBounds_toArray, List.set_cons_zero, List.set_cons_succ]
          refine take_ 1 (v := ?_) rfl (by kernel_rfl) (by kernel_rfl) (by kernel_rfl) (fun _ _ _ h => h) hHeld (by rfl) ?_ ?_
          rotate_left 1
          · (intro w hSw; (try dsimp only at hSw); go_simp; all_goals with_reducible rfl)
          try simp only [Act.put, List.setIfInBounds_toArray, List.set_cons_zero, List.set_cons_succ]
          refine take_ 2 (v := ?_) rfl (by kernel_rfl) (by kernel_rfl) (by kernel_rfl) (fun _ _ _ h => h) hHeld (by rfl) ?_ ?_
          rotate_left 1
          · (intro w hSw; (try dsimp only at hSw); go_simp; all_goals with_reducible rfl)
          try simp only [Act.put, List.setIfInBounds_toArray, List.set_cons_zero, List.set_cons_succ]
          refine take_ 3 (v := ?_) rfl (by kernel_rfl) (by kernel_rfl) (by kernel_rfl) (fun _ _ _ h => h) hHeld (by rfl) ?_ ?_
          rotate_left 1
          · (intro w hSw; (try dsimp only at hSw); go_simp; all_goals with_reducible rfl)
          try simp only [Act.put, List.setIfInBounds_toArray, List.set_cons_zero, List.set_cons_succ]
          refine take_ 4 (v := ?_) rfl (by kernel_rfl) (by kernel_rfl) (by kernel_rfl) (fun _ _ _ h => h) hHeld (by rfl) ?_ ?_
          rotate_left 1
          · (intro w hSw; (try dsimp only at hSw); go_simp; all_goals with_reducible rfl)
          try simp only [Act.put, List.setIfInBounds_toArray, List.set_cons_zero, List.set_cons_succ]
          refine take_ 5 (v := ?_) rfl (by kernel_rfl) (by kernel_rfl) (by kernel_rfl) (fun _ _ _ h => h) hHeld (by rfl) ?_ ?_
          rotate_left 1
          · (intro w hSw; (try dsimp only at hSw); go_simp; all_goals with_reducible rfl)
          try simp only [Act.put, List.setIfInBounds_toArray, List.set_cons_zero, List.set_cons_succ]
          refine take_ 7 (v := ?_) rfl (by kernel_rfl) (by kernel_rfl) (by kernel_rfl) (fun _ _ _ h => h) hHeld (by rfl) ?_ ?_
          rotate_left 1
          · (intro w hSw; (try dsimp only at hSw); go_simp; all_goals with_reducible rfl)
          try simp only [Act.put, List.setIfInBounds_toArray, List.set_cons_zero, List.set_cons_succ]
          refine take_ 8 (v := ?_) rfl (by kernel_rfl) (by kernel_rfl) (by kernel_rfl) (fun _ _ _ h => h) hHeld (by rfl) ?_ ?_
          rotate_left 1
          · (intro w hSw; (try dsimp only at hSw); go_simp; all_goals with_reducible rfl)
          try simp only [Act.put, List.setIfInBounds_toArray, List.set_cons_zero, List.set_cons_succ]
          refine take_ 9 (v := ?_) rfl (by kernel_rfl) (by kernel_rfl) (by kernel_rfl) (fun _ _ _ h => h) hHeld (by rfl) ?_ ?_
          rotate_left 1
          · (intro w hSw; (try dsimp only at hSw); go_simp; all_goals with_reducible rfl)
          try simp only [Act.put, List.setIfInBounds_toArray, List.set_cons_zero, List.set_cons_succ]
          refine take_ 10 (v := ?_) rfl (by kernel_rfl) (by kernel_rfl) (by kernel_rfl) (fun _ _ _ h => h) hHeld (by rfl) ?_ ?_
          rotate_left 1
          · (intro w hSw; (try dsimp only at hSw); go_simp; all_goals with_reducible rfl)
          try simp only [Act.put, List.setIfInBounds_toArray, List.set_cons_zero, List.set_cons_succ]
          refine only_ 6 rfl (by kernel_rfl) (fun K1 hK1 => ?_)
          go_simp
          go_at_call 19
          refine (HSI.out _ _).mono ?_
          rintro e w8 ⟨rfl, hx8⟩
          rw [HSG.out]
          refine hK1.out _ _ (⟨hHeld.1.trans hx8, Ext.range_ hx8 hHeld.2.1, Ext.cell_ hx8 hHeld.2.2.1, Ext.cell_ hx8 hHeld.2.2.2⟩) (fun hHeld => ?_)
          clear hK1
          try simp only [Act.put, List.setIfInBounds_toArray, List.set_cons_zero, List.set_cons_succ]
          refine take_ 11 (v := ?_) rfl (by kernel_rfl) (by kernel_rfl) (by kernel_rfl) (fun _ _ _ h => h) hHeld (by rfl) ?_ ?_
          rotate_left 1
          · (intro w hSw; (try dsimp only at hSw); go_simp; all_goals with_reducible rfl)
          try simp only [Act.put, List.setIfInBounds_toArray, List.set_cons_zero, List.set_cons_succ]
          refine take_ 12 (v := ?_) rfl (by kernel_rfl) (by kernel_rfl) (by kernel_rfl) (fun _ _ _ h => h) hHeld (by rfl) ?_ ?_
          rotate_left 1
          · (intro w hSw; (try dsimp only at hSw); go_simp; all_goals with_reducible rfl)
          try simp only [Act.put, List.setIfInBounds_toArray, List.set_cons_zero, List.set_cons_succ]
          refine take_ 13 (v := ?_) rfl (by kernel_rfl) (by kernel_rfl) (by kernel_rfl) (fun _ _ _ h => h) hHeld (by rfl) ?_ ?_
          rotate_left 1
          · (intro w hSw; (try dsimp only at hSw); go_simp; all_goals with_reducible rfl)
          try simp only [Act.put, List.setIfInBounds_toArray, List.set_cons_zero, List.set_cons_succ]
          refine take_ 14 (v := ?_) rfl (by kernel_rfl) (by kernel_rfl) (by kernel_rfl) (fun _ _ _ h => h) hHeld (by rfl) ?_ ?_
          rotate_left 1
          · (intro w hSw; (try dsimp only at hSw); go_simp; all_goals with_reducible rfl)
          try simp only [Act.put, List.setIfInBounds_toArray, List.set_cons_zero, List.set_cons_succ]
          refine take_ 16 (v := ?_) rfl (by kernel_rfl) (by kernel_rfl) (by kernel_rfl) (fun _ _ _ h => h) hHeld (by rfl) ?_ ?_
          rotate_left 1
          · (intro w hSw; (try dsimp only at hSw); go_simp; all_goals with_reducible rfl)
          try simp only [Act.put, List.setIfInBounds_toArray, List.set_cons_zero, List.set_cons_succ]
          refine only_ 15 rfl (by kernel_rfl) (fun K1 hK1 => ?_)
          go_simp
          go_at_call 20
          refine (HFI2.out _ _ hHeld.1).mono ?_
          rintro e w9 ⟨rfl, hx9⟩
          rw [HFD.out]
          refine hK1.out _ _ (⟨hHeld.1.trans hx9, Ext.range_ hx9 hHeld.2.1, Ext.cell_ hx9 hHeld.2.2.1, Ext.cell_ hx9 hHeld.2.2.2⟩) (fun hHeld => ?_)
          clear hK1
          try simp only [Act.put, List.setIfInBounds_toArray, List.set_cons_zero, List.set_cons_succ]
          refine take_ 17 (v := ?_) rfl (by kernel_rfl) (by kernel_rfl) (by kernel_rfl) (fun _ _ _ h => h) hHeld (by rfl) ?_ ?_
          rotate_left 1
          · (intro w hSw; (try dsimp only at hSw); go_simp; all_goals with_reducible rfl)
          try simp only [Act.put, List.setIfInBounds_toArray, List.set_cons_zero, List.set_cons_succ]
          refine take_ 18 (v := ?_) rfl (by kernel_rfl) (by kernel_rfl) (by kernel_rfl) (fun _ _ _ h => h) hHeld (by rfl) ?_ ?_
          rotate_left 1
          · (intro w hSw; (try dsimp only at hSw); go_simp; all_goals with_reducible rfl)
          try simp only [Act.put, List.setIfInBounds_toArray, List.set_cons_zero, List.set_cons_succ]
          refine wpAnyH_done (by kernel_rfl) ?_ _
          refine NoPanic.normal ?_
          have HH := Lib.hid hHeld.1
          clear hHeld
          go_wp2
          go_roundw
          case rel => exact ⟨k + 1, by omega, by go_num, by rw [HS2.out]; go_num, by rw [HS2.out]; omega, HX.out.trans HH.out⟩
          case measure => simp [intOf]; omega
    · have e : k = N := by omega
      subst e
      rw [HTK.out, HCT.out]
      have i1 : ¬ ((k : Int) < (k : Int)) := by omega
      have HXX := Lib.hid (HX7.out.trans hx)
      have HX := Lib.hid (HX5.out.trans (HX6.out.trans (HX7.out.trans hx)))
      have HFN2 : Hid (findZ L (NA : Int) = -1) := Lib.hid HFN.out
      have bn : ((NA : Int) == (NA : Int)) = true := by simp
      have bm : ((-1 : Int) == -1) = true := rfl
      clear hx hks HDR5
      go_wp2_with (first
        | (go_at_call 20; with_reducible refine (HFI.out _ _ HXX.out).mono ?_; rintro e w12 ⟨rfl, hx12⟩; rw [HFN2.out])
        | (go_at_call 17; refine (HLV.out _).mono ?_; rintro e w13 ⟨rfl, rfl⟩))
      go_ret
      exact ⟨rfl, HX.out.trans hx12⟩
end Go.Proofs.YthoicieckodneaaGreatDoor.Loc
