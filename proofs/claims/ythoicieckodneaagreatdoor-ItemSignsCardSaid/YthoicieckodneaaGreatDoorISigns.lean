/- The law ItemSigns: the sign stands there just of a negative draft, once. (Printed by wip/gen/law15.py.) -/
import Derived.Test.YthoicieckodneaaGreatDoorItW5
namespace Go.Proofs.YthoicieckodneaaGreatDoor.Loc
open Go.RowKit Utf All Small Strs Build EncC Pat Cls Dec Go.Proofs.YthoicieckodneaaGreatDoor.Sys
set_option linter.unusedVariables false
set_option linter.unusedSimpArgs false
theorem sg_take (l : List It) {k : Nat} (hk : k < l.length) : (l.take (k + 1)).countP isSg = (l.take k).countP isSg + (if isSg l[k] then 1 else 0) := by
  rw [List.take_succ_eq_append_getElem hk, List.countP_append]
  by_cases h : isSg l[k] = true <;> simp [h]
set_option maxHeartbeats 16000000 in
set_option maxRecDepth 1000000 in
theorem law_ItemSigns (v0 v1 v2 v3 v4 v5 n : Int) (A0 B0 : Option Addr) (c0 e0 : Nat) (d0 : Dr) (w : World) (h0 : i64 v0) (h1 : i64 v1) (h2 : i64 v2) (h3 : i64 v3) (h4 : i64 v4) (h5 : i64 v5) (hn : i64 n) (hd : DrR w A0 B0 d0) (hi : DrI d0) (hT : Tabs w) :
    Calls Tryz.prog 3 #[.agg ([.int .i64 v0, .int .i64 v1, .int .i64 v2, .int .i64 v3, .int .i64 v4, .int .i64 v5] : List Value).toArray, .int .i64 n, .agg ([.bool d0.neg, .slice A0 d0.int.length c0, .bool d0.sep, .slice B0 d0.frac.length e0] : List Value).toArray] w fun e w' => e = .returned (.bool true) ∧ Below w.heap.size w w' := by
  obtain ⟨r, p, hK, hBG⟩ := begin15 v0 v1 v2 v3 v4 v5 n h0 h1 h2 h3 h4 h5 hn
  obtain ⟨dd, hdok, hdi, hdf, hGd⟩ : ∃ dd : Dr, DrOk dd ∧ dd.int.length ≤ 100 ∧ dd.frac.length ≤ 100 ∧ ∀ W, Ext w W → Calls Tryz.prog 15 #[.agg ([.bool d0.neg, .slice A0 d0.int.length c0, .bool d0.sep, .slice B0 d0.frac.length e0] : List Value).toArray, .int .i64 14, .int .i64 6] W fun e w' => ∃ X Y cx cy, e = .returned (.agg ([.bool dd.neg, .slice X dd.int.length cx, .bool dd.sep, .slice Y dd.frac.length cy] : List Value).toArray) ∧ DrR w' X Y dd ∧ Okc X cx ∧ Okc Y cy ∧ Ext W w' :=
    ⟨goodD d0 14 6, good_ok _ _ _, by have := good_intl d0 14 6; omega, by have := good_fracl d0 14 6; omega, fun W hW => ref14_good A0 B0 c0 e0 d0 14 6 W (hd.ext hW) hi (by decide) (by decide)⟩
  have HK := Lib.hid hK
  have HBG := Lib.hid hBG
  have HTW := Lib.hid hT
  have HGD := Lib.hid hGd
  have HDO := Lib.hid hdok
  have b1 := (Box.new w 23 [.int .i64 v0, .int .i64 v1, .int .i64 v2, .int .i64 v3, .int .i64 v4, .int .i64 v5]).alloc (.cells ([.bool d0.neg, .slice A0 d0.int.length c0, .bool d0.sep, .slice B0 d0.frac.length e0] : List Value).toArray 26)
  have c1 := Box.new (w.alloc (.cells ([.int .i64 v0, .int .i64 v1, .int .i64 v2, .int .i64 v3, .int .i64 v4, .int .i64 v5] : List Value).toArray 23)) 26 [.bool d0.neg, .slice A0 d0.int.length c0, .bool d0.sep, .slice B0 d0.frac.length e0]
  have hs1 : (w.alloc (.cells ([.int .i64 v0, .int .i64 v1, .int .i64 v2, .int .i64 v3, .int .i64 v4, .int .i64 v5] : List Value).toArray 23)).heap.size = w.heap.size + 1 := by simp
  rw [hs1] at c1
  have hx1 : Ext w ((w.alloc (.cells ([.int .i64 v0, .int .i64 v1, .int .i64 v2, .int .i64 v3, .int .i64 v4, .int .i64 v5] : List Value).toArray 23)).alloc (.cells ([.bool d0.neg, .slice A0 d0.int.length c0, .bool d0.sep, .slice B0 d0.frac.length e0] : List Value).toArray 26)) := Ext.alloc_ (Ext.alloc_ (Ext.refl w) _) _
  have HRG := Lib.hid b1.range
  have HRD := Lib.hid c1.range
  have HX1 := Lib.hid hx1
  clear hK hBG hGd hd hi hT b1 c1 hs1 hx1 h0 h1 h2 h3 h4 h5 hn hdok
  go_enter Tryz.func3, Tryz.ntmps3
  go_upto_region 1 with fail
  change Code.wp _ _ _ _ ((w.alloc (.cells ([.int .i64 v0, .int .i64 v1, .int .i64 v2, .int .i64 v3, .int .i64 v4, .int .i64 v5] : List Value).toArray 23)).alloc (.cells ([.bool d0.neg, .slice A0 d0.int.length c0, .bool d0.sep, .slice B0 d0.frac.length e0] : List Value).toArray 26))
  generalize (w.alloc (.cells ([.int .i64 v0, .int .i64 v1, .int .i64 v2, .int .i64 v3, .int .i64 v4, .int .i64 v5] : List Value).toArray 23)).alloc (.cells ([.bool d0.neg, .slice A0 d0.int.length c0, .bool d0.sep, .slice B0 d0.frac.length e0] : List Value).toArray 26) = w1 at *
  generalize w.heap.size + 1 = db0 at *
  go_upto_region 2 with (first
    | (refine wpList_load_mid rfl 23 (.tmp 3) rfl w.heap.size 0 rfl [.int .i64 v0, .int .i64 v1, .int .i64 v2, .int .i64 v3, .int .i64 v4, .int .i64 v5] _ HRG.out Tryz.underlying23 rfl infoG ?_)
    | (go_at_call 14; with_reducible refine (HBG.out _ (HTW.out.ext HX1.out)).mono ?_; rintro e w2 ⟨g, A', B', C', D', c', d', a', b', A, B, C, D, c, d, a, b, rfl, hLR, hpt, hcap, hx2⟩)
    | (refine wpList_store_fresh rfl 34 (.tmp 8) (.tmp 18) rfl (refLV A B C D c d a b r p).toArray 34 _ rfl rfl infoRL rfl (refL_one A B C D c d a b r p) ?_))
  have hb3 := Box.new w2 34 (refLV A B C D c d a b r p)
  have hx3 : Ext w2 (w2.alloc (.cells (refLV A B C D c d a b r p).toArray 34)) := Ext.alloc_ (Ext.refl _) _
  have HLR := Lib.hid (hLR.ext hx3)
  have HPT := Lib.hid (hpt.ext hx3)
  have HCAP := Lib.hid hcap
  have HX3 := Lib.hid (HX1.out.trans (hx2.trans hx3))
  have HRD3 := Lib.hid (Ext.range_ (hx2.trans hx3) HRD.out)
  generalize w2.alloc (.cells (refLV A B C D c d a b r p).toArray 34) = w3 at *
  generalize w2.heap.size = lb at *
  have HLB := Lib.hid hb3
  clear hb3 hx2 hx3 hpt hcap hLR HRG HRD HBG
  go_upto_region 5 with (first
    | (refine wpList_load_mid rfl 26 (.tmp 5) rfl db0 0 rfl [.bool d0.neg, .slice A0 d0.int.length c0, .bool d0.sep, .slice B0 d0.frac.length e0] _ HRD3.out Tryz.underlying26 rfl infoD14 ?_)
    | (go_at_call 15; with_reducible refine (HGD.out _ HX3.out).mono ?_; rintro e w4 ⟨X, Y, cx, cy, rfl, hdr, oX, oY, hx4⟩)
    | (refine wpList_store_fresh rfl 26 (.tmp 9) (.tmp 22) rfl ([.bool dd.neg, .slice X dd.int.length cx, .bool dd.sep, .slice Y dd.frac.length cy] : List Value).toArray 26 _ rfl rfl infoD14 rfl (by simp [Value.oneCell']) ?_))
  have hb5 := Box.new w4 26 [.bool dd.neg, .slice X dd.int.length cx, .bool dd.sep, .slice Y dd.frac.length cy]
  have hx5 : Ext w4 (w4.alloc (.cells ([.bool dd.neg, .slice X dd.int.length cx, .bool dd.sep, .slice Y dd.frac.length cy] : List Value).toArray 26)) := Ext.alloc_ (Ext.refl _) _
  have HX5 := Lib.hid (HX3.out.trans (hx4.trans hx5))
  have HLR5 := Lib.hid (HLR.out.ext (hx4.trans hx5))
  have HPT5 := Lib.hid (HPT.out.ext (hx4.trans hx5))
  have HLB5 := Lib.hid (HLB.out.ext (hx4.trans hx5))
  have HDR5 := Lib.hid (hdr.ext hx5)
  have HOX := Lib.hid oX
  have HOY := Lib.hid oY
  generalize w4.alloc (.cells ([.bool dd.neg, .slice X dd.int.length cx, .bool dd.sep, .slice Y dd.frac.length cy] : List Value).toArray 26) = w5 at *
  generalize w4.heap.size = db at *
  have HDB5 := Lib.hid hb5
  have HRDD := Lib.hid hb5.range
  have HIT : Hid (∀ W, Ext w5 W → Calls Tryz.prog 16 #[.pointer (some ⟨g, 0, none⟩), .agg ([.bool dd.neg, .slice X dd.int.length cx, .bool dd.sep, .slice Y dd.frac.length cy] : List Value).toArray] W fun e w' => ∃ E cE, e = .returned (.slice E (itemsF (locOf r p) dd).length cE) ∧ Row w' E (itsV (itemsF (locOf r p) dd)) ∧ Ext W w') := Lib.hid fun W hW =>
    (item_items g A' B' C' D' X Y c' d' a' b' cx cy dd (locOf r p) W (HLR5.out.ext hW) HK.out.both.may.b HK.out.num (HDR5.out.ext hW) hdi hdf).mono fun e w' ⟨E, cE, h1, h2⟩ => ⟨E, cE, h1, h2.row, h2.ext⟩
  have HIL := Lib.hid (items_le HK.out.both hdi hdf)
  clear hb5 hx4 hx5 hdr oX oY HLR HPT HLB HRD3 HGD
  go_upto_region 6 with (first
    | (refine wpList_load_mid rfl 26 (.tmp 9) rfl db 0 rfl [.bool dd.neg, .slice X dd.int.length cx, .bool dd.sep, .slice Y dd.frac.length cy] _ HRDD.out Tryz.underlying26 rfl infoD14 ?_)
    | (go_at_call 16; with_reducible refine (HIT.out _ (Ext.refl _)).mono ?_; rintro e w6 ⟨E, cE, rfl, hrE, hx6⟩))
  have HRE := Lib.hid hrE
  have HX6 := Lib.hid hx6
  clear hrE hx6
  have HLV := Lib.hid Ends.law15_lives
  have HSG : Hid ((itemsF (locOf r p) dd).countP isSg = if dd.neg then 1 else 0) := Lib.hid (by rw [items_sg]; exact HK.out.both.count dd.neg)
  have HMI : Hid (∀ x ∈ itemsF (locOf r p) dd, x.1 = 1 → x.2.1 = r.minus) := Lib.hid fun x hx h1 => items_minus hx h1
  have q5 := (HLB5.out.ext HX6.out).cell (j := 5) (v := .string ⟨r.minus.toArray⟩) rfl
  have qd := (HDB5.out.ext HX6.out).cell (j := 0) (v := .bool dd.neg) rfl
  have HIL2 := HIL.out.1
  generalize hL : itemsF (locOf r p) dd = L at *
  generalize hN : L.length = N at *
  have HN := Lib.hid hN
  have HTK : Hid (L.take N = L) := Lib.hid (by rw [← hN, List.take_length])
  clear hN hL
  have Q5 := Lib.hid q5
  have QD := Lib.hid qd
  clear q5 qd HIT HRDD HDB5
  go_upto_region 8 with fail
  go_wp2
  go_loopw [11, 12] (fun m i wr => ∃ k : Nat, k ≤ N ∧ i = .int .i64 k ∧ m = .int .i64 ((L.take k).countP isSg) ∧ (L.take k).countP isSg ≤ k ∧ Ext w6 wr) (fun _ i _ => N - (intOf i).toNat)
  case atStart => exact ⟨0, Nat.zero_le _, rfl, rfl, by simp, Ext.refl _⟩
  case round =>
    obtain ⟨k, hk, rfl, rfl, hks, hx⟩ := hrel
    by_cases hlt : k < N
    · have hkl : k < L.length := by have := HN.out; omega
      obtain ⟨bx, ox, rfl, hg⟩ := row_it (HRE.out.below hx (Nat.le_refl _)) hkl
      have HST := Lib.hid (sg_take L hkl)
      have hmi := HMI.out _ (List.getElem_mem hkl)
      have q5 := Ext.cell_ hx Q5.out
      generalize L[k] = x at *
      obtain ⟨tg, t, at_⟩ := x
      simp only at hg hmi
      have c0 : wr.cell? ⟨bx, ox + k * 3, none⟩ = some (.int .i64 tg) := hg 0 _ rfl
      have c1 : wr.cell? ⟨bx, ox + k * 3 + 1, none⟩ = some (.string ⟨t.toArray⟩) := hg 1 _ rfl
      have i1 : (k : Int) < (N : Int) := by omega
      have i2 : (0 : Int) ≤ (k : Int) := by omega
      have HX := Lib.hid hx
      clear hg hx
      generalize (L.take k).countP isSg = m at *
      by_cases h1 : tg = 1
      · have HS2 : Hid ((L.take (k + 1)).countP isSg = m + 1) := Lib.hid (by rw [HST.out]; subst h1; rfl)
        obtain rfl := hmi h1
        subst h1
        have b1 : ((1 : Int) == 1) = true := rfl
        clear HST hmi
        go_upto_region 12 with fail
        refine wp_region_noPanic ?_
        refine wp_region_held_drew (S := fun W => Ext wr W ∧ W.cell? ⟨bx, ox + k * 3 + 1, none⟩ = some (.string ⟨r.minus.toArray⟩) ∧ W.cell? ⟨lb, 5, none⟩ = some (.string ⟨r.minus.toArray⟩)) (by kernel_rfl) ?_ (fun hHeld => ?_)
        · exact ⟨Ext.drew_ (Ext.refl _), c1, q5⟩
        refine take_ 0 (v := ?_) rfl (by kernel_rfl) (by kernel_rfl) (by kernel_rfl) (fun _ _ _ h => h) hHeld (by rfl) ?_ ?_
        rotate_left 1
        · (intro w hSw; (try dsimp only at hSw); go_simp; all_goals with_reducible rfl)
        try simp only [Act.put, List.setIfInBounds_toArray, List.set_cons_zero, List.set_cons_succ]
        refine take_ 1 (v := ?_) rfl (by kernel_rfl) (by kernel_rfl) (by kernel_rfl) (fun _ _ _ h => h) hHeld (by rfl) ?_ ?_
        rotate_left 1
        · (intro w hSw; (try dsimp only at hSw); go_simp; all_goals with_reducible rfl)
        try simp only [Act.put, List.setIfInBounds_toArray, List.set_cons_zero, List.set_cons_succ]
        refine take_ 2 (v := ?_) rfl (by kernel_rfl) (by kernel_rfl) (by kernel_rfl) (fun _ _ _ h => h) hHeld (by rfl) ?_ ?_
        rotate_left 1
        · (intro w hSw; (try dsimp only at hSw); go_simp; all_goals with_reducible rfl)
        try simp only [Act.put, List.setIfInBounds_toArray, List.set_cons_zero, List.set_cons_succ]
        refine take_ 3 (v := ?_) rfl (by kernel_rfl) (by kernel_rfl) (by kernel_rfl) (fun _ _ _ h => h) hHeld (by rfl) ?_ ?_
        rotate_left 1
        · (intro w hSw; (try dsimp only at hSw); go_simp; all_goals with_reducible rfl)
        try simp only [Act.put, List.setIfInBounds_toArray, List.set_cons_zero, List.set_cons_succ]
        refine take_ 4 (v := ?_) rfl (by kernel_rfl) (by kernel_rfl) (by kernel_rfl) (fun _ _ _ h => h) hHeld (by rfl) ?_ ?_
        rotate_left 1
        · (intro w hSw; (try dsimp only at hSw); go_simp; all_goals with_reducible rfl)
        try simp only [Act.put, List.setIfInBounds_toArray, List.set_cons_zero, List.set_cons_succ]
        refine take_ 5 (v := ?_) rfl (by kernel_rfl) (by kernel_rfl) (by kernel_rfl) (fun _ _ _ h => h) hHeld (by rfl) ?_ ?_
        rotate_left 1
        · (intro w hSw; (try dsimp only at hSw); go_simp; all_goals with_reducible rfl)
        try simp only [Act.put, List.setIfInBounds_toArray, List.set_cons_zero, List.set_cons_succ]
        refine take_ 6 (v := ?_) rfl (by kernel_rfl) (by kernel_rfl) (by kernel_rfl) (fun _ _ _ h => h) hHeld (by rfl) ?_ ?_
        rotate_left 1
        · (intro w hSw; (try dsimp only at hSw); go_simp; all_goals with_reducible rfl)
        try simp only [Act.put, List.setIfInBounds_toArray, List.set_cons_zero, List.set_cons_succ]
        refine take_ 7 (v := ?_) rfl (by kernel_rfl) (by kernel_rfl) (by kernel_rfl) (fun _ _ _ h => h) hHeld (by rfl) ?_ ?_
        rotate_left 1
        · (intro w hSw; (try dsimp only at hSw); go_simp; all_goals with_reducible rfl)
        try simp only [Act.put, List.setIfInBounds_toArray, List.set_cons_zero, List.set_cons_succ]
        refine take_ 8 (v := ?_) rfl (by kernel_rfl) (by kernel_rfl) (by kernel_rfl) (fun _ _ _ h => h) hHeld (by rfl) ?_ ?_
        rotate_left 1
        · (intro w hSw; (try dsimp only at hSw); go_simp; all_goals with_reducible rfl)
        try simp only [Act.put, List.setIfInBounds_toArray, List.set_cons_zero, List.set_cons_succ]
        refine wpAnyH_done (by kernel_rfl) ?_ _
        refine NoPanic.normal ?_
        have HH := Lib.hid hHeld.1
        clear hHeld
        go_wp2
        go_roundw
        case rel => exact ⟨k + 1, by omega, by go_num, by rw [HS2.out]; go_num, by rw [HS2.out]; omega, HX.out.trans HH.out⟩
        case measure => simp [intOf]; omega
      · have HS2 : Hid ((L.take (k + 1)).countP isSg = m) := Lib.hid (by rw [HST.out]; unfold isSg; simp [h1])
        have b1 : (tg == 1) = false := by simpa using h1
        clear HST hmi h1
        go_wp2
        go_roundw
        case rel => exact ⟨k + 1, by omega, by go_num, by rw [HS2.out], by rw [HS2.out]; omega, HX.out⟩
        case measure => simp [intOf]; omega
    · have e : k = N := by omega
      subst e
      rw [HTK.out, HSG.out]
      have qd := Ext.cell_ hx QD.out
      have i1 : ¬ ((k : Int) < (k : Int)) := by omega
      have HX := Lib.hid (HX5.out.trans (HX6.out.trans hx))
      clear hx hks HDR5 HRE Q5 QD
      generalize dd.neg = ng at *
      cases ng
      · go_wp2_with (go_at_call 17; refine (HLV.out _).mono ?_; rintro e w12 ⟨rfl, rfl⟩)
        go_ret
        exact ⟨rfl, HX.out⟩
      · go_wp2_with (go_at_call 17; refine (HLV.out _).mono ?_; rintro e w12 ⟨rfl, rfl⟩)
        go_ret
        exact ⟨rfl, HX.out⟩
end Go.Proofs.YthoicieckodneaaGreatDoor.Loc
