/- The law ItemGroups: there are as many groups as are told of the digits ahead of the separator; each stands between two digits. (Printed by wip/gen/law15.py.) -/
import Derived.Test.YthoicieckodneaaGreatDoorItW5
namespace Go.Proofs.YthoicieckodneaaGreatDoor.Loc
open Go.RowKit Utf All Small Strs Build EncC Pat Cls Dec Go.Proofs.YthoicieckodneaaGreatDoor.Sys
set_option linter.unusedVariables false
set_option linter.unusedSimpArgs false
theorem gr_take (l : List It) {k : Nat} (hk : k < l.length) : (l.take (k + 1)).countP isGr = (l.take k).countP isGr + (if isGr l[k] then 1 else 0) := by
  rw [List.take_succ_eq_append_getElem hk, List.countP_append]
  by_cases h : isGr l[k] = true <;> simp [h]
theorem tag_cell {w : World} {b off : Nat} {L : List It} {k : Nat} {x : It} (h : Row w (some ⟨b, off, none⟩) (L.map fun x => Value.int .i64 x.1)) (hx : L[k]? = some x) : w.cell? ⟨b, off + k, none⟩ = some (.int .i64 x.1) :=
  h.cell0 (by rw [List.getElem?_map, hx]; rfl)
theorem tag_row {w : World} {X : Option Addr} {L : List It} {k : Nat} (h : Row w X (L.map fun x => Value.int .i64 x.1)) (hk : k < L.length) : ∃ b off, X = some ⟨b, off, none⟩ := by
  obtain ⟨b, off, e, _⟩ := h.at_ (k := k) (by simpa using hk)
  exact ⟨b, off, e⟩
set_option maxHeartbeats 16000000 in
set_option maxRecDepth 1000000 in
theorem law_ItemGroups (v0 v1 v2 v3 v4 v5 n : Int) (A0 B0 : Option Addr) (c0 e0 : Nat) (d0 : Dr) (w : World) (h0 : i64 v0) (h1 : i64 v1) (h2 : i64 v2) (h3 : i64 v3) (h4 : i64 v4) (h5 : i64 v5) (hn : i64 n) (hd : DrR w A0 B0 d0) (hi : DrI d0) (hT : Tabs w) :
    Calls Tryz.prog 6 #[.agg ([.int .i64 v0, .int .i64 v1, .int .i64 v2, .int .i64 v3, .int .i64 v4, .int .i64 v5] : List Value).toArray, .int .i64 n, .agg ([.bool d0.neg, .slice A0 d0.int.length c0, .bool d0.sep, .slice B0 d0.frac.length e0] : List Value).toArray] w fun e w' => e = .returned (.bool true) ∧ Below w.heap.size w w' := by
  obtain ⟨r, p, hK, hBG⟩ := begin15 v0 v1 v2 v3 v4 v5 n h0 h1 h2 h3 h4 h5 hn
  obtain ⟨dd, hdok, hdi, hdf, hGd⟩ : ∃ dd : Dr, DrOk dd ∧ dd.int.length ≤ 100 ∧ dd.frac.length ≤ 100 ∧ ∀ W, Ext w W → Calls Tryz.prog 15 #[.agg ([.bool d0.neg, .slice A0 d0.int.length c0, .bool d0.sep, .slice B0 d0.frac.length e0] : List Value).toArray, .int .i64 14, .int .i64 6] W fun e w' => ∃ X Y cx cy, e = .returned (.agg ([.bool dd.neg, .slice X dd.int.length cx, .bool dd.sep, .slice Y dd.frac.length cy] : List Value).toArray) ∧ DrR w' X Y dd ∧ Okc X cx ∧ Okc Y cy ∧ Ext W w' :=
    ⟨goodD d0 14 6, good_ok _ _ _, by have := good_intl d0 14 6; omega, by have := good_fracl d0 14 6; omega, fun W hW => ref14_good A0 B0 c0 e0 d0 14 6 W (hd.ext hW) hi (by decide) (by decide)⟩
  have HK := Lib.hid hK
  have HBG := Lib.hid hBG
  have HTW := Lib.hid hT
  have HGD := Lib.hid hGd
  have HDO := Lib.hid hdok
  have b1 := (Box.new w 23 [.int .i64 v0, .int .i64 v1, .int .i64 v2, .int .i64 v3, .int .i64 v4, .int .i64 v5]).alloc (.cells ([.bool d0.neg, .slice A0 d0.int.length c0, .bool d0.sep, .slice B0 d0.frac.length e0] : List Value).toArray 26)
  have c1 := Box.new (w.alloc (.cells ([.int .i64 v0, .int .i64 v1, .int .i64 v2, .int .i64 v3, .int .i64 v4, .int .i64 v5] : List Value).toArray 23)) 26 [.bool d0.neg, .slice A0 d0.int.length c0, .bool d0.sep, .slice B0 d0.frac.length e0]
  have hs1 : (w.alloc (.cells ([.int .i64 v0, .int .i64 v1, .int .i64 v2, .int .i64 v3, .int .i64 v4, .int .i64 v5] : List Value).toArray 23)).heap.size = w.heap.size + 1 := by simp
  rw [hs1] at c1
  have hx1 : Ext w ((w.alloc (.cells ([.int .i64 v0, .int .i64 v1, .int .i64 v2, .int .i64 v3, .int .i64 v4, .int .i64 v5] : List Value).toArray 23)).alloc (.cells ([.bool d0.neg, .slice A0 d0.int.length c0, .bool d0.sep, .slice B0 d0.frac.length e0] : List Value).toArray 26)) := Ext.alloc_ (Ext.alloc_ (Ext.refl w) _) _
  have HRG := Lib.hid b1.range
  have HRD := Lib.hid c1.range
  have HX1 := Lib.hid hx1
  clear hK hBG hGd hd hi hT b1 c1 hs1 hx1 h0 h1 h2 h3 h4 h5 hn hdok
  go_enter Tryz.func6, Tryz.ntmps6
  go_upto_region 1 with fail
  change Code.wp _ _ _ _ ((w.alloc (.cells ([.int .i64 v0, .int .i64 v1, .int .i64 v2, .int .i64 v3, .int .i64 v4, .int .i64 v5] : List Value).toArray 23)).alloc (.cells ([.bool d0.neg, .slice A0 d0.int.length c0, .bool d0.sep, .slice B0 d0.frac.length e0] : List Value).toArray 26))
  generalize (w.alloc (.cells ([.int .i64 v0, .int .i64 v1, .int .i64 v2, .int .i64 v3, .int .i64 v4, .int .i64 v5] : List Value).toArray 23)).alloc (.cells ([.bool d0.neg, .slice A0 d0.int.length c0, .bool d0.sep, .slice B0 d0.frac.length e0] : List Value).toArray 26) = w1 at *
  generalize w.heap.size + 1 = db0 at *
  go_upto_region 2 with (first
    | (refine wpList_load_mid rfl 23 (.tmp 3) rfl w.heap.size 0 rfl [.int .i64 v0, .int .i64 v1, .int .i64 v2, .int .i64 v3, .int .i64 v4, .int .i64 v5] _ HRG.out Tryz.underlying23 rfl infoG ?_)
    | (go_at_call 14; with_reducible refine (HBG.out _ (HTW.out.ext HX1.out)).mono ?_; rintro e w2 ⟨g, A', B', C', D', c', d', a', b', A, B, C, D, c, d, a, b, rfl, hLR, hpt, hcap, hx2⟩)
    | (refine wpList_store_fresh rfl 34 (.tmp 8) (.tmp 19) rfl (refLV A B C D c d a b r p).toArray 34 _ rfl rfl infoRL rfl (refL_one A B C D c d a b r p) ?_))
  have hb3 := Box.new w2 34 (refLV A B C D c d a b r p)
  have hx3 : Ext w2 (w2.alloc (.cells (refLV A B C D c d a b r p).toArray 34)) := Ext.alloc_ (Ext.refl _) _
  have HLR := Lib.hid (hLR.ext hx3)
  have HPT := Lib.hid (hpt.ext hx3)
  have HCAP := Lib.hid hcap
  have HX3 := Lib.hid (HX1.out.trans (hx2.trans hx3))
  have HRD3 := Lib.hid (Ext.range_ (hx2.trans hx3) HRD.out)
  generalize w2.alloc (.cells (refLV A B C D c d a b r p).toArray 34) = w3 at *
  generalize w2.heap.size = lb at *
  have HLB := Lib.hid hb3
  clear hb3 hx2 hx3 hpt hcap hLR HRG HRD HBG
  go_upto_region 5 with (first
    | (refine wpList_load_mid rfl 26 (.tmp 5) rfl db0 0 rfl [.bool d0.neg, .slice A0 d0.int.length c0, .bool d0.sep, .slice B0 d0.frac.length e0] _ HRD3.out Tryz.underlying26 rfl infoD14 ?_)
    | (go_at_call 15; with_reducible refine (HGD.out _ HX3.out).mono ?_; rintro e w4 ⟨X, Y, cx, cy, rfl, hdr, oX, oY, hx4⟩)
    | (refine wpList_store_fresh rfl 26 (.tmp 9) (.tmp 23) rfl ([.bool dd.neg, .slice X dd.int.length cx, .bool dd.sep, .slice Y dd.frac.length cy] : List Value).toArray 26 _ rfl rfl infoD14 rfl (by simp [Value.oneCell']) ?_))
  have hb5 := Box.new w4 26 [.bool dd.neg, .slice X dd.int.length cx, .bool dd.sep, .slice Y dd.frac.length cy]
  have hx5 : Ext w4 (w4.alloc (.cells ([.bool dd.neg, .slice X dd.int.length cx, .bool dd.sep, .slice Y dd.frac.length cy] : List Value).toArray 26)) := Ext.alloc_ (Ext.refl _) _
  have HX5 := Lib.hid (HX3.out.trans (hx4.trans hx5))
  have HLR5 := Lib.hid (HLR.out.ext (hx4.trans hx5))
  have HPT5 := Lib.hid (HPT.out.ext (hx4.trans hx5))
  have HLB5 := Lib.hid (HLB.out.ext (hx4.trans hx5))
  have HDR5 := Lib.hid (hdr.ext hx5)
  have HOX := Lib.hid oX
  have HOY := Lib.hid oY
  generalize w4.alloc (.cells ([.bool dd.neg, .slice X dd.int.length cx, .bool dd.sep, .slice Y dd.frac.length cy] : List Value).toArray 26) = w5 at *
  generalize w4.heap.size = db at *
  have HDB5 := Lib.hid hb5
  have HRDD := Lib.hid hb5.range
  have HIT : Hid (∀ W, Ext w5 W → Calls Tryz.prog 16 #[.pointer (some ⟨g, 0, none⟩), .agg ([.bool dd.neg, .slice X dd.int.length cx, .bool dd.sep, .slice Y dd.frac.length cy] : List Value).toArray] W fun e w' => ∃ E cE, e = .returned (.slice E (itemsF (locOf r p) dd).length cE) ∧ Row w' E (itsV (itemsF (locOf r p) dd)) ∧ Ext W w') := Lib.hid fun W hW =>
    (item_items g A' B' C' D' X Y c' d' a' b' cx cy dd (locOf r p) W (HLR5.out.ext hW) HK.out.both.may.b HK.out.num (HDR5.out.ext hW) hdi hdf).mono fun e w' ⟨E, cE, h1, h2⟩ => ⟨E, cE, h1, h2.row, h2.ext⟩
  have HIL := Lib.hid (items_le HK.out.both hdi hdf)
  clear hb5 hx4 hx5 hdr oX oY HLR HPT HLB HRD3 HGD
  go_upto_region 6 with (first
    | (refine wpList_load_mid rfl 26 (.tmp 9) rfl db 0 rfl [.bool dd.neg, .slice X dd.int.length cx, .bool dd.sep, .slice Y dd.frac.length cy] _ HRDD.out Tryz.underlying26 rfl infoD14 ?_)
    | (go_at_call 16; with_reducible refine (HIT.out _ (Ext.refl _)).mono ?_; rintro e w6 ⟨E, cE, rfl, hrE, hx6⟩))
  have HRE := Lib.hid hrE
  have HX6 := Lib.hid hx6
  clear hrE hx6
  have HLV := Lib.hid Ends.law15_lives
  have HBE : Hid (Between (itemsF (locOf r p) dd)) := Lib.hid (items_between _ _)
  have HGN : Hid ((((itemsF (locOf r p) dd).countP isGr : Nat) : Int) = Ends.groupsN p.num.prim p.num.sec dd.int.length) := Lib.hid (items_groups (locOf r p) dd)
  have HNM := Lib.hid HK.out.num
  have HIL2 := HIL.out.1
  generalize hL : itemsF (locOf r p) dd = L at *
  generalize hN : L.length = N at *
  have HN := Lib.hid hN
  have HTK : Hid (L.take N = L) := Lib.hid (by rw [← hN, List.take_length])
  clear hN hL
  have HTG : Hid (∀ W, Ext w6 W → Calls Tryz.prog 26 #[.slice E N cE] W fun e w' => ∃ F c', e = .returned (.slice F N c') ∧ Row w' F (L.map fun x => Value.int .i64 x.1) ∧ Ext W w') := Lib.hid fun W hW => item_tags E N cE L W (HRE.out.below hW (Nat.le_refl _)) HN.out (by omega)
  go_upto_region 7 with (go_at_call 26; with_reducible refine (HTG.out _ (Ext.refl _)).mono ?_; rintro e w7 ⟨F, cF, rfl, hrF, hx7⟩)
  have HRF := Lib.hid hrF
  have HX7 := Lib.hid hx7
  have b0 : ((N : Int) != (N : Int)) = false := by simp
  clear hrF hx7 HIT HRDD
  go_upto_region 11 with fail
  go_wp2
  go_loopw [12, 13] (fun m i wr => ∃ k : Nat, k ≤ N ∧ i = .int .i64 k ∧ m = .int .i64 ((L.take k).countP isGr) ∧ (L.take k).countP isGr ≤ k ∧ Ext w7 wr) (fun _ i _ => N - (intOf i).toNat)
  case atStart => exact ⟨0, Nat.zero_le _, rfl, rfl, by simp, Ext.refl _⟩
  case round =>
    obtain ⟨k, hk, rfl, rfl, hks, hx⟩ := hrel
    by_cases hlt : k < N
    · have hkl : k < L.length := by have := HN.out; omega
      obtain ⟨bx, ox, rfl, hg⟩ := row_it (HRE.out.below (HX7.out.trans hx) (Nat.le_refl _)) hkl
      have hrt := HRF.out.below hx (Nat.le_refl _)
      obtain ⟨fb, fo, rfl⟩ := tag_row hrt hkl
      have HST := Lib.hid (gr_take L hkl)
      have hbe := HBE.out k _ (List.getElem?_eq_getElem hkl)
      have q0 := tag_cell hrt (List.getElem?_eq_getElem hkl)
      generalize L[k] = x at *
      obtain ⟨tg, t, at_⟩ := x
      simp only at hg hbe q0
      have c0 : wr.cell? ⟨bx, ox + k * 3, none⟩ = some (.int .i64 tg) := hg 0 _ rfl
      have i1 : (k : Int) < (N : Int) := by omega
      have i2 : (0 : Int) ≤ (k : Int) := by omega
      have HX := Lib.hid hx
      have bt : (tg != tg) = false := by simp
      have HRT := Lib.hid hrt
      clear hg hx hrt
      generalize (L.take k).countP isGr = m at *
      go_upto_region 13 with fail
      refine wp_region_noPanic ?_
      refine wp_region_held_drew (S := fun W => Ext wr W ∧ W.cell? ⟨bx, ox + k * 3, none⟩ = some (.int .i64 tg) ∧ W.cell? ⟨fb, fo + k, none⟩ = some (.int .i64 tg)) (by kernel_rfl) ?_ (fun hHeld => ?_)
      · exact ⟨Ext.drew_ (Ext.refl _), c0, q0⟩
      refine take_ 0 (v := ?_) rfl (by kernel_rfl) (by kernel_rfl) (by kernel_rfl) (fun _ _ _ h => h) hHeld (by rfl) ?_ ?_
      rotate_left 1
      · (intro w hSw; (try dsimp only at hSw); go_simp; all_goals with_reducible rfl)
      try simp only [Act.put, List.setIfInBounds_toArray, List.set_cons_zero, List.set_cons_succ]
      refine take_ 1 (v := ?_) rfl (by kernel_rfl) (by kernel_rfl) (by kernel_rfl) (fun _ _ _ h => h) hHeld (by rfl) ?_ ?_
      rotate_left 1
      · (intro w hSw; (try dsimp only at hSw); go_simp; all_goals with_reducible rfl)
      try simp only [Act.put, List.setIfInBounds_toArray, List.set_cons_zero, List.set_cons_succ]
      refine take_ 2 (v := ?_) rfl (by kernel_rfl) (by kernel_rfl) (by kernel_rfl) (fun _ _ _ h => h) hHeld (by rfl) ?_ ?_
      rotate_left 1
      · (intro w hSw; (try dsimp only at hSw); go_simp; all_goals with_reducible rfl)
      try simp only [Act.put, List.setIfInBounds_toArray, List.set_cons_zero, List.set_cons_succ]
      refine take_ 3 (v := ?_) rfl (by kernel_rfl) (by kernel_rfl) (by kernel_rfl) (fun _ _ _ h => h) hHeld (by rfl) ?_ ?_
      rotate_left 1
      · (intro w hSw; (try dsimp only at hSw); go_simp; all_goals with_reducible rfl)
      try simp only [Act.put, List.setIfInBounds_toArray, List.set_cons_zero, List.set_cons_succ]
      refine take_ 4 (v := ?_) rfl (by kernel_rfl) (by kernel_rfl) (by kernel_rfl) (fun _ _ _ h => h) hHeld (by rfl) ?_ ?_
      rotate_left 1
      · (intro w hSw; (try dsimp only at hSw); go_simp; all_goals with_reducible rfl)
      try simp only [Act.put, List.setIfInBounds_toArray, List.set_cons_zero, List.set_cons_succ]
      refine take_ 5 (v := ?_) rfl (by kernel_rfl) (by kernel_rfl) (by kernel_rfl) (fun _ _ _ h => h) hHeld (by rfl) ?_ ?_
      rotate_left 1
      · (intro w hSw; (try dsimp only at hSw); go_simp; all_goals with_reducible rfl)
      try simp only [Act.put, List.setIfInBounds_toArray, List.set_cons_zero, List.set_cons_succ]
      refine take_ 6 (v := ?_) rfl (by kernel_rfl) (by kernel_rfl) (by kernel_rfl) (fun _ _ _ h => h) hHeld (by rfl) ?_ ?_
      rotate_left 1
      · (intro w hSw; (try dsimp only at hSw); go_simp; all_goals with_reducible rfl)
      try simp only [Act.put, List.setIfInBounds_toArray, List.set_cons_zero, List.set_cons_succ]
      refine take_ 7 (v := ?_) rfl (by kernel_rfl) (by kernel_rfl) (by kernel_rfl) (fun _ _ _ h => h) hHeld (by rfl) ?_ ?_
      rotate_left 1
      · (intro w hSw; (try dsimp only at hSw); go_simp; all_goals with_reducible rfl)
      try simp only [Act.put, List.setIfInBounds_toArray, List.set_cons_zero, List.set_cons_succ]
      refine take_ 8 (v := ?_) rfl (by kernel_rfl) (by kernel_rfl) (by kernel_rfl) (fun _ _ _ h => h) hHeld (by rfl) ?_ ?_
      rotate_left 1
      · (intro w hSw; (try dsimp only at hSw); go_simp; all_goals with_reducible rfl)
      try simp only [Act.put, List.setIfInBounds_toArray, List.set_cons_zero, List.set_cons_succ]
      refine take_ 9 (v := ?_) rfl (by kernel_rfl) (by kernel_rfl) (by kernel_rfl) (fun _ _ _ h => h) hHeld (by rfl) ?_ ?_
      rotate_left 1
      · (intro w hSw; (try dsimp only at hSw); go_simp; all_goals with_reducible rfl)
      try simp only [Act.put, List.setIfInBounds_toArray, List.set_cons_zero, List.set_cons_succ]
      refine wpAnyH_done (by kernel_rfl) ?_ _
      refine NoPanic.normal ?_
      have HH := Lib.hid hHeld.1
      have q0 := hHeld.2.2
      have HRT2 := Lib.hid (HRT.out.below hHeld.1 (Nat.le_refl _))
      clear hHeld c0
      by_cases h3 : tg = 3
      · have HS2 : Hid ((L.take (k + 1)).countP isGr = m + 1) := Lib.hid (by rw [HST.out]; subst h3; rfl)
        obtain ⟨hk0, ⟨y, hy, hy2⟩, z, hz, hz2⟩ := hbe h3
        have hkn : k + 1 < N := by have := (List.getElem?_eq_some_iff.1 hz).1; have := HN.out; omega
        have qa := tag_cell HRT2.out hy
        have qb := tag_cell HRT2.out hz
        rw [hy2] at qa
        rw [hz2] at qb
        subst h3
        have b3 : ((3 : Int) != 3) = false := rfl
        have b2 : ((2 : Int) != 2) = false := rfl
        obtain ⟨j, rfl⟩ : ∃ j, k = j + 1 := ⟨k - 1, by omega⟩
        rw [Nat.add_sub_cancel] at qa
        have e1 : max (((j + 1 : Nat) : Int) - 1) 0 = (j : Int) := by omega
        have e2 : min ((j : Int) + 1 + 1) ((N : Int) - 1) = (j : Int) + 1 + 1 := by omega
        have e3 : ((j : Int) + 1 + 1).toNat = j + 1 + 1 := by omega
        have e4 : (j : Int) + 1 + 1 < (N : Int) := by omega
        have e5 : (0 : Int) ≤ (j : Int) + 1 + 1 := by omega
        have g1 : ((j : Int) + 1 == 0) = false := by simp; omega
        have g2 : ((j : Int) + 1 == (N : Int) - 1) = false := by simp; omega
        have g3 : ¬ ((j : Int) + 1 = (N : Int) - 1) := by omega
        have g4 : ¬ ((j : Int) + 1 = 0) := by omega
        clear HST hbe hy hz hy2 hz2 hk0
        go_wp2
        exact ⟨⟨j + 1 + 1, by omega, by go_num, by rw [HS2.out]; go_num, by rw [HS2.out]; omega, HX.out.trans HH.out⟩, by simp [intOf]; omega⟩
      · have HS2 : Hid ((L.take (k + 1)).countP isGr = m) := Lib.hid (by rw [HST.out]; unfold isGr; simp [h3])
        have b3 : (tg != 3) = true := by simpa using h3
        clear HST hbe h3
        go_wp2
        go_roundw
        case rel => exact ⟨k + 1, by omega, by go_num, by rw [HS2.out], by rw [HS2.out]; omega, HX.out.trans HH.out⟩
        case measure => simp [intOf]; omega
    · have e : k = N := by omega
      subst e
      rw [HTK.out, HGN.out]
      have i1 : ¬ ((k : Int) < (k : Int)) := by omega
      have hx67 := HX6.out.trans (HX7.out.trans hx)
      have qd := (HDB5.out.ext hx67).cell (j := 1) (v := .slice X dd.int.length cx) rfl
      have q12 := (HLB5.out.ext hx67).cell (j := 12) (v := .int .i64 p.num.prim) rfl
      have q13 := (HLB5.out.ext hx67).cell (j := 13) (v := .int .i64 p.num.sec) rfl
      have HGR : Hid (∀ W, Calls Tryz.prog 27 #[.int .i64 dd.int.length, .int .i64 p.num.prim, .int .i64 p.num.sec] W fun e w' => e = .returned (.int .i64 (Ends.groupsN p.num.prim p.num.sec dd.int.length)) ∧ W = w') := Lib.hid fun W => Ends.item_groups dd.int.length p.num.prim p.num.sec W (by omega) (by have := HNM.out; omega) (by have := HNM.out; omega)
      have HX := Lib.hid (HX5.out.trans hx67)
      clear hx hks HDR5 hx67 HGN
      generalize Ends.groupsN p.num.prim p.num.sec dd.int.length = gn at *
      have bg : (gn == gn) = true := by simp
      generalize dd.int.length = dn at *
      go_wp2_with (first
        | (go_at_call 27; with_reducible refine (HGR.out _).mono ?_; rintro e w12 ⟨rfl, rfl⟩)
        | (go_at_call 17; refine (HLV.out _).mono ?_; rintro e w13 ⟨rfl, rfl⟩))
      go_ret
      exact ⟨rfl, HX.out⟩
end Go.Proofs.YthoicieckodneaaGreatDoor.Loc
