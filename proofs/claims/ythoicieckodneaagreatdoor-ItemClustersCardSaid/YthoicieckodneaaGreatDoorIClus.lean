/- The law ItemClusters: the clusters of a draft's text are those of its items, one behind the other. (Printed by wip/gen/law15.py.) -/
import Derived.Test.YthoicieckodneaaGreatDoorItW5
import Derived.Test.YthoicieckodneaaGreatDoorTexts
import Derived.Test.YthoicieckodneaaGreatDoorItSp
namespace Go.Proofs.YthoicieckodneaaGreatDoor.Loc
open Go.RowKit Utf All Small Strs Build EncC Pat Cls Dec Go.Proofs.YthoicieckodneaaGreatDoor.Sys
set_option linter.unusedVariables false
set_option linter.unusedSimpArgs false
theorem strs_v (l : List (List UInt8)) : strsV l = (l.map fun t => (⟨t.toArray⟩ : ByteArray)).map Value.string := by unfold strsV; rw [List.map_map]; rfl
theorem strs_cells (l : List (List UInt8)) : ∀ u ∈ strsV l, u.oneCell' = true := by
  intro u hu
  obtain ⟨t, _, rfl⟩ := List.mem_map.1 hu
  rfl
def clusF (L : List It) : List (List UInt8) := L.flatMap fun x => splitS x.2.1
theorem clus_snoc (L : List It) {k : Nat} (h : k < L.length) : clusF (L.take (k + 1)) = clusF (L.take k) ++ splitS L[k].2.1 := by
  unfold clusF
  rw [List.take_succ_eq_append_getElem h, List.flatMap_append]; simp
theorem clus_len {L : List It} (h : ∀ x ∈ L, x.2.1.length ≤ 1000) : ∀ k, (clusF (L.take k)).length ≤ 1000 * k
  | 0 => by simp [clusF]
  | k + 1 => by
    have ih := clus_len h k
    by_cases hk : k < L.length
    · have := h _ (List.getElem_mem hk)
      have h2 := split_len_le L[k].2.1
      rw [clus_snoc L hk, List.length_append]; omega
    · rw [List.take_of_length_le (by omega)] at ih ⊢
      omega
set_option maxHeartbeats 16000000 in
set_option maxRecDepth 1000000 in
theorem law_ItemClusters (v0 v1 v2 v3 v4 v5 n : Int) (A0 B0 : Option Addr) (c0 e0 : Nat) (d0 : Dr) (w : World) (h0 : i64 v0) (h1 : i64 v1) (h2 : i64 v2) (h3 : i64 v3) (h4 : i64 v4) (h5 : i64 v5) (hn : i64 n) (hd : DrR w A0 B0 d0) (hi : DrI d0) (hT : Tabs w) :
    Calls Tryz.prog 7 #[.agg ([.int .i64 v0, .int .i64 v1, .int .i64 v2, .int .i64 v3, .int .i64 v4, .int .i64 v5] : List Value).toArray, .int .i64 n, .agg ([.bool d0.neg, .slice A0 d0.int.length c0, .bool d0.sep, .slice B0 d0.frac.length e0] : List Value).toArray] w fun e w' => e = .returned (.bool true) ∧ Below w.heap.size w w' := by
  obtain ⟨r, p, hK, hBG⟩ := begin15 v0 v1 v2 v3 v4 v5 n h0 h1 h2 h3 h4 h5 hn
  obtain ⟨dd, hdok, hdi, hdf, hGd⟩ : ∃ dd : Dr, DrOk dd ∧ dd.int.length ≤ 100 ∧ dd.frac.length ≤ 100 ∧ ∀ W, Ext w W → Calls Tryz.prog 15 #[.agg ([.bool d0.neg, .slice A0 d0.int.length c0, .bool d0.sep, .slice B0 d0.frac.length e0] : List Value).toArray, .int .i64 10, .int .i64 5] W fun e w' => ∃ X Y cx cy, e = .returned (.agg ([.bool dd.neg, .slice X dd.int.length cx, .bool dd.sep, .slice Y dd.frac.length cy] : List Value).toArray) ∧ DrR w' X Y dd ∧ Okc X cx ∧ Okc Y cy ∧ Ext W w' :=
    ⟨goodD d0 10 5, good_ok _ _ _, by have := good_intl d0 10 5; omega, by have := good_fracl d0 10 5; omega, fun W hW => ref14_good A0 B0 c0 e0 d0 10 5 W (hd.ext hW) hi (by decide) (by decide)⟩
  have HK := Lib.hid hK
  have HBG := Lib.hid hBG
  have HTW := Lib.hid hT
  have HGD := Lib.hid hGd
  have HDO := Lib.hid hdok
  have b1 := (Box.new w 23 [.int .i64 v0, .int .i64 v1, .int .i64 v2, .int .i64 v3, .int .i64 v4, .int .i64 v5]).alloc (.cells ([.bool d0.neg, .slice A0 d0.int.length c0, .bool d0.sep, .slice B0 d0.frac.length e0] : List Value).toArray 26)
  have c1 := Box.new (w.alloc (.cells ([.int .i64 v0, .int .i64 v1, .int .i64 v2, .int .i64 v3, .int .i64 v4, .int .i64 v5] : List Value).toArray 23)) 26 [.bool d0.neg, .slice A0 d0.int.length c0, .bool d0.sep, .slice B0 d0.frac.length e0]
  have hs1 : (w.alloc (.cells ([.int .i64 v0, .int .i64 v1, .int .i64 v2, .int .i64 v3, .int .i64 v4, .int .i64 v5] : List Value).toArray 23)).heap.size = w.heap.size + 1 := by simp
  rw [hs1] at c1
  have hx1 : Ext w ((w.alloc (.cells ([.int .i64 v0, .int .i64 v1, .int .i64 v2, .int .i64 v3, .int .i64 v4, .int .i64 v5] : List Value).toArray 23)).alloc (.cells ([.bool d0.neg, .slice A0 d0.int.length c0, .bool d0.sep, .slice B0 d0.frac.length e0] : List Value).toArray 26)) := Ext.alloc_ (Ext.alloc_ (Ext.refl w) _) _
  have HRG := Lib.hid b1.range
  have HRD := Lib.hid c1.range
  have HX1 := Lib.hid hx1
  clear hK hBG hGd hd hi hT b1 c1 hs1 hx1 h0 h1 h2 h3 h4 h5 hn hdok
  go_enter Tryz.func7, Tryz.ntmps7
  go_upto_region 1 with fail
  change Code.wp _ _ _ _ ((w.alloc (.cells ([.int .i64 v0, .int .i64 v1, .int .i64 v2, .int .i64 v3, .int .i64 v4, .int .i64 v5] : List Value).toArray 23)).alloc (.cells ([.bool d0.neg, .slice A0 d0.int.length c0, .bool d0.sep, .slice B0 d0.frac.length e0] : List Value).toArray 26))
  generalize (w.alloc (.cells ([.int .i64 v0, .int .i64 v1, .int .i64 v2, .int .i64 v3, .int .i64 v4, .int .i64 v5] : List Value).toArray 23)).alloc (.cells ([.bool d0.neg, .slice A0 d0.int.length c0, .bool d0.sep, .slice B0 d0.frac.length e0] : List Value).toArray 26) = w1 at *
  generalize w.heap.size + 1 = db0 at *
  go_upto_region 2 with (first
    | (refine wpList_load_mid rfl 23 (.tmp 3) rfl w.heap.size 0 rfl [.int .i64 v0, .int .i64 v1, .int .i64 v2, .int .i64 v3, .int .i64 v4, .int .i64 v5] _ HRG.out Tryz.underlying23 rfl infoG ?_)
    | (go_at_call 14; with_reducible refine (HBG.out _ (HTW.out.ext HX1.out)).mono ?_; rintro e w2 ⟨g, A', B', C', D', c', d', a', b', A, B, C, D, c, d, a, b, rfl, hLR, hpt, hcap, hx2⟩)
    | (refine wpList_store_fresh rfl 34 (.tmp 8) (.tmp 18) rfl (refLV A B C D c d a b r p).toArray 34 _ rfl rfl infoRL rfl (refL_one A B C D c d a b r p) ?_))
  have hb3 := Box.new w2 34 (refLV A B C D c d a b r p)
  have hx3 : Ext w2 (w2.alloc (.cells (refLV A B C D c d a b r p).toArray 34)) := Ext.alloc_ (Ext.refl _) _
  have HLR := Lib.hid (hLR.ext hx3)
  have HPT := Lib.hid (hpt.ext hx3)
  have HCAP := Lib.hid hcap
  have HX3 := Lib.hid (HX1.out.trans (hx2.trans hx3))
  have HRD3 := Lib.hid (Ext.range_ (hx2.trans hx3) HRD.out)
  generalize w2.alloc (.cells (refLV A B C D c d a b r p).toArray 34) = w3 at *
  generalize w2.heap.size = lb at *
  have HLB := Lib.hid hb3
  clear hb3 hx2 hx3 hpt hcap hLR HRG HRD HBG
  go_upto_region 5 with (first
    | (refine wpList_load_mid rfl 26 (.tmp 5) rfl db0 0 rfl [.bool d0.neg, .slice A0 d0.int.length c0, .bool d0.sep, .slice B0 d0.frac.length e0] _ HRD3.out Tryz.underlying26 rfl infoD14 ?_)
    | (go_at_call 15; with_reducible refine (HGD.out _ HX3.out).mono ?_; rintro e w4 ⟨X, Y, cx, cy, rfl, hdr, oX, oY, hx4⟩)
    | (refine wpList_store_fresh rfl 26 (.tmp 9) (.tmp 22) rfl ([.bool dd.neg, .slice X dd.int.length cx, .bool dd.sep, .slice Y dd.frac.length cy] : List Value).toArray 26 _ rfl rfl infoD14 rfl (by simp [Value.oneCell']) ?_))
  have hb5 := Box.new w4 26 [.bool dd.neg, .slice X dd.int.length cx, .bool dd.sep, .slice Y dd.frac.length cy]
  have hx5 : Ext w4 (w4.alloc (.cells ([.bool dd.neg, .slice X dd.int.length cx, .bool dd.sep, .slice Y dd.frac.length cy] : List Value).toArray 26)) := Ext.alloc_ (Ext.refl _) _
  have HX5 := Lib.hid (HX3.out.trans (hx4.trans hx5))
  have HLR5 := Lib.hid (HLR.out.ext (hx4.trans hx5))
  have HPT5 := Lib.hid (HPT.out.ext (hx4.trans hx5))
  have HLB5 := Lib.hid (HLB.out.ext (hx4.trans hx5))
  have HDR5 := Lib.hid (hdr.ext hx5)
  have HOX := Lib.hid oX
  have HOY := Lib.hid oY
  generalize w4.alloc (.cells ([.bool dd.neg, .slice X dd.int.length cx, .bool dd.sep, .slice Y dd.frac.length cy] : List Value).toArray 26) = w5 at *
  generalize w4.heap.size = db at *
  have HDB5 := Lib.hid hb5
  have HRDD := Lib.hid hb5.range
  have HIT : Hid (∀ W, Ext w5 W → Calls Tryz.prog 16 #[.pointer (some ⟨g, 0, none⟩), .agg ([.bool dd.neg, .slice X dd.int.length cx, .bool dd.sep, .slice Y dd.frac.length cy] : List Value).toArray] W fun e w' => ∃ E cE, e = .returned (.slice E (itemsF (locOf r p) dd).length cE) ∧ Row w' E (itsV (itemsF (locOf r p) dd)) ∧ Ext W w') := Lib.hid fun W hW =>
    (item_items g A' B' C' D' X Y c' d' a' b' cx cy dd (locOf r p) W (HLR5.out.ext hW) HK.out.both.may.b HK.out.num (HDR5.out.ext hW) hdi hdf).mono fun e w' ⟨E, cE, h1, h2⟩ => ⟨E, cE, h1, h2.row, h2.ext⟩
  have HIL := Lib.hid (items_le HK.out.both hdi hdf)
  clear hb5 hx4 hx5 hdr oX oY HLR HPT HLB HRD3 HGD
  go_upto_region 6 with (first
    | (refine wpList_load_mid rfl 26 (.tmp 9) rfl db 0 rfl [.bool dd.neg, .slice X dd.int.length cx, .bool dd.sep, .slice Y dd.frac.length cy] _ HRDD.out Tryz.underlying26 rfl infoD14 ?_)
    | (go_at_call 16; with_reducible refine (HIT.out _ (Ext.refl _)).mono ?_; rintro e w6 ⟨E, cE, rfl, hrE, hx6⟩))
  have HRE := Lib.hid hrE
  have HX6 := Lib.hid hx6
  clear hrE hx6
  have HLV := Lib.hid Ends.law15_lives
  have HSP : Hid (splitS (textI (itemsF (locOf r p) dd)) = clusF (itemsF (locOf r p) dd)) := Lib.hid (items_split HK.out.both HDO.out)
  have HTL := HIL.out.2.2
  have HIL2 := HIL.out.1
  generalize hL : itemsF (locOf r p) dd = L at *
  generalize hN : L.length = N at *
  have HN := Lib.hid hN
  have HTK : Hid (L.take N = L) := Lib.hid (by rw [← hN, List.take_length])
  have HCL := Lib.hid (clus_len HIL.out.2.1)
  clear hN hL
  have HRS : Hid (∀ (t : List UInt8) W, t.length ≤ 1000000 → Calls Tryz.prog 28 #[.string ⟨t.toArray⟩] W fun e w' => ∃ F c', e = .returned (.slice F (splitS t).length c') ∧ Row w' F (strsV (splitS t)) ∧ Okc F c' ∧ Ext W w') := Lib.hid fun t W ht => split_okc t W ht
  have HTX : Hid (∀ W, Ext w6 W → Calls Tryz.prog 24 #[.slice E N cE] W fun e w' => e = .returned (.string ⟨(textI L).toArray⟩) ∧ Ext W w') := Lib.hid fun W hW => item_text E N cE L W (HRE.out.below hW (Nat.le_refl _)) HN.out (by omega) HIL.out.2.1
  clear HIT HRDD HDB5
  go_upto_region 8 with fail
  go_wp2
  go_loopw [11, 12] (fun v i wr => ∃ (k : Nat) (F : Option Addr) (c' m : Nat), k ≤ N ∧ i = .int .i64 k ∧ v = .slice F m c' ∧ m = (clusF (L.take k)).length ∧ Acc 9 1 w6 wr F c' m (strsV (clusF (L.take k)))) (fun _ i _ => N - (intOf i).toNat)
  case atStart => exact ⟨0, none, 0, 0, Nat.zero_le _, rfl, rfl, rfl, Acc.start _ _ _⟩
  case round =>
    obtain ⟨k, F, c', m, hk, rfl, rfl, hm, hacc⟩ := hrel
    have hcl := HCL.out k
    have HA := Lib.hid hacc
    have HM := Lib.hid hm
    have hmb : m ≤ 3000000 := by omega
    by_cases hlt : k < N
    · have hkl : k < L.length := by have := HN.out; omega
      obtain ⟨bx, ox, rfl, hg⟩ := row_it (HRE.out.below hacc.ext (Nat.le_refl _)) hkl
      have hxl := HIL.out.2.1 _ (List.getElem_mem hkl)
      have HS := Lib.hid (clus_snoc L hkl)
      generalize L[k] = x at *
      obtain ⟨tg, t, at_⟩ := x
      simp only at hg hxl
      have c1 : wr.cell? ⟨bx, ox + k * 3 + 1, none⟩ = some (.string ⟨t.toArray⟩) := hg 1 _ rfl
      have i1 : (k : Int) < (N : Int) := by omega
      have i2 : (0 : Int) ≤ (k : Int) := by omega
      have HSX := Lib.hid (fun W => HRS.out t W (by omega))
      have hsl := split_len_le t
      have HS2 : Hid (strsV (clusF (L.take (k + 1))) = strsV (clusF (L.take k)) ++ strsV (splitS t) ∧ m + (splitS t).length = (clusF (L.take (k + 1))).length) := Lib.hid (by
        rw [HS.out]
        exact ⟨by unfold strsV; rw [List.map_append], by rw [List.length_append, ← HM.out]⟩)
      generalize clusF (L.take k) = T1 at *
      have HSL := Lib.hid (strsV_len (splitS t))
      generalize splitS t = sp at *
      clear hg hacc hm hcl
      go_wp2_with (first
        | (go_at_call 28; with_reducible refine (HSX.out _).mono ?_; rintro e w8 ⟨G, cG, rfl, hrG, oG, hx8⟩; have HA8 := Lib.hid (HA.out.step hx8))
        | (at_builtin; refine wp_src ei_str rfl (.tmp 32) (.tmp 38) rfl w6 _ F c' m _ rfl HA8.out G sp.length cG (strsV sp) rfl hrG oG (by rw [HSL.out, Nat.mul_one]) (strs_cells sp) (by omega) (by unfold maxLen; omega) ?_; intro A9 c9 w9 hA9 _))
      exact ⟨⟨k + 1, A9, c9, m + sp.length, by omega, by go_num, rfl, HS2.out.2, by rw [HS2.out.1]; exact hA9⟩, by simp [intOf]; omega⟩
    · have e : k = N := by omega
      subst e
      rw [HTK.out] at hacc hm
      have i1 : ¬ ((k : Int) < (k : Int)) := by omega
      have hrw := hacc.row
      have HXX := Lib.hid hacc.ext
      have HSX := Lib.hid (fun W => HRS.out (textI L) W (by omega))
      have HST : Hid (∀ W G cG, Row W G (strsV (clusF L)) → Row W F (strsV (clusF L)) → Calls Tryz.prog 29 #[.slice G m cG, .slice F m c'] W fun e w' => e = .returned (.bool true) ∧ Ext W w') := Lib.hid fun W G cG hG hF => by
        have h := same_texts G F cG c' ((clusF L).map fun t => (⟨t.toArray⟩ : ByteArray)) ((clusF L).map fun t => (⟨t.toArray⟩ : ByteArray)) W (by rw [← strs_v]; exact hG) (by rw [← strs_v]; exact hF) (by rw [List.length_map, ← hm]; unfold maxLen; omega) (by rw [List.length_map, ← hm]; unfold maxLen; omega)
        rw [List.length_map, ← hm, decide_eq_true rfl] at h
        exact h
      rw [HSP.out, ← hm] at HSX
      have HRW := Lib.hid hrw
      have HX := Lib.hid (HX5.out.trans (HX6.out.trans HXX.out))
      clear hacc hm hcl hrw HA HM HDR5 HSP
      generalize clusF L = T at *
      generalize textI L = TX at *
      go_wp2_with (first
        | (go_at_call 24; with_reducible refine (HTX.out _ HXX.out).mono ?_; rintro e w8 ⟨rfl, hx8⟩)
        | (go_at_call 28; with_reducible refine (HSX.out _).mono ?_; rintro e w9 ⟨G, cG, rfl, hrG, oG, hx9⟩)
        | (go_at_call 29; with_reducible refine (HST.out _ _ _ hrG (HRW.out.below (hx8.trans hx9) (Nat.le_refl _))).mono ?_; rintro e w10 ⟨rfl, hx10⟩)
        | (go_at_call 17; refine (HLV.out _).mono ?_; rintro e w13 ⟨rfl, rfl⟩))
      go_ret
      exact ⟨rfl, HX.out.trans (hx8.trans (hx9.trans hx10))⟩
end Go.Proofs.YthoicieckodneaaGreatDoor.Loc
