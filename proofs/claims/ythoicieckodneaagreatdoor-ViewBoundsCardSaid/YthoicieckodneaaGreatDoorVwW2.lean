/- Walk: view.New. (Printed by wip/gen/view.py.) -/
import Derived.Test.YthoicieckodneaaGreatDoorVwW1
namespace Go.Proofs.YthoicieckodneaaGreatDoor.Loc
open Go.RowKit Utf All Small Strs Build EncC Pat Cls Dec Go.Proofs.YthoicieckodneaaGreatDoor.Sys
set_option linter.unusedVariables false
set_option linter.unusedSimpArgs false

theorem atom_at {l : Loc} {d : Dr} (h : DrOk d) {i : Nat} {x : It} (hx : (itemsF l d)[i]? = some x) : (isAt x = true → 0 ≤ x.2.2) ∧ (isAt x = false → x.2.2 = -1) :=
  ⟨fun ha => by
    have h2 := (items_at h hx ha).2
    rw [h2, atomI_at]; omega, fun ha => items_none (List.mem_of_getElem? hx) ha⟩
theorem stopB_is {L : List It} {k : Nat} {x : It} (hx : L[k]? = some x) : stopB L k = if isAt x then [cum L (k + 1)] else [] := by
  unfold stopB atK; rw [hx]; rfl
set_option maxHeartbeats 16000000 in
set_option maxRecDepth 100000 in
theorem view_new (g : Nat) (A B C D X Y : Option Addr) (c d a b cx cy : Nat) (dr : Dr) (r : Rec) (p : Pt) (w : World) (h : LocR w g A B C D c d a b (locOf r p)) (hK : Knd r p) (hd : DrR w X Y dr) (hok : DrOk dr) (hi : dr.int.length ≤ 100) (hf : dr.frac.length ≤ 100) :
    Calls Tryz.prog 64 #[.pointer (some ⟨g, 0, none⟩), .agg ([.bool dr.neg, .slice X dr.int.length cx, .bool dr.sep, .slice Y dr.frac.length cy] : List Value).toArray] w fun e w' => ∃ vb E cE F cF, e = .returned (.pointer (some ⟨vb, 0, none⟩)) ∧ VwF w.heap.size w' vb E cE F cF (itemsF (locOf r p) dr) (stopsP (itemsF (locOf r p) dr) (ahead (locOf r p) dr.neg).length) ∧ Ext w w' := by
  have HL := Lib.hid h
  have HDR := Lib.hid hd
  have HKB := Lib.hid hK
  have HIT : Hid (∀ W, Ext w W → Calls Tryz.prog 16 #[.pointer (some ⟨g, 0, none⟩), .agg ([.bool dr.neg, .slice X dr.int.length cx, .bool dr.sep, .slice Y dr.frac.length cy] : List Value).toArray] W fun e w' => ∃ E cE, e = .returned (.slice E (itemsF (locOf r p) dr).length cE) ∧ Row w' E (itsV (itemsF (locOf r p) dr)) ∧ FrA w.heap.size E ∧ Ext W w') := Lib.hid fun W hW =>
    (item_items g A B C D X Y c d a b cx cy dr (locOf r p) W (HL.out.ext hW) HKB.out.both.may.b HKB.out.num (HDR.out.ext hW) hi hf).mono fun e w' ⟨E, cE, h1, h2⟩ => ⟨E, cE, h1, h2.row, fun x hx => Nat.le_trans hW.size (h2.own.lt x.block (by rw [hx]; rfl)).1, h2.ext⟩
  have HAR : Hid (∀ W, Ext w W → Calls Tryz.prog 50 #[.pointer (some ⟨g, 0, none⟩), .bool dr.neg] W fun e w' => ∃ E c1 F c2, e = .returned (.tuple #[.slice E (ahead (locOf r p) dr.neg).length c1, .slice F (behind (locOf r p) dr.neg).length c2]) ∧ Row w' E (prtV (ahead (locOf r p) dr.neg)) ∧ Row w' F (prtV (behind (locOf r p) dr.neg)) ∧ Okc E c1 ∧ Okc F c2 ∧ Ext W w') := Lib.hid fun W hW => around_l g A B C D c d a b dr.neg (locOf r p) W (HL.out.ext hW) HKB.out.both.may.b
  have HIL := Lib.hid (items_le hK.both hi hf)
  have HAT : Hid (∀ i x, (itemsF (locOf r p) dr)[i]? = some x → (isAt x = true → 0 ≤ x.2.2) ∧ (isAt x = false → x.2.2 = -1)) := Lib.hid fun i x hx => atom_at hok hx
  have hsl := (side_len hK.both dr.neg).1
  have b1 := Box.new w 40 [.bool dr.neg, .slice X dr.int.length cx, .bool dr.sep, .slice Y dr.frac.length cy]
  have hx1 : Ext w (w.alloc (.cells ([.bool dr.neg, .slice X dr.int.length cx, .bool dr.sep, .slice Y dr.frac.length cy] : List Value).toArray 40)) := Ext.alloc_ (Ext.refl w) _
  have HX1 := Lib.hid hx1
  have HB1 := Lib.hid b1
  have HR1 := Lib.hid b1.range
  clear h hd hK hok b1 hx1
  go_enter Tryz.func64, Tryz.ntmps64
  go_upto_region 1 with fail
  change Code.wp _ _ _ _ (w.alloc (.cells ([.bool dr.neg, .slice X dr.int.length cx, .bool dr.sep, .slice Y dr.frac.length cy] : List Value).toArray 40))
  generalize w.alloc (.cells ([.bool dr.neg, .slice X dr.int.length cx, .bool dr.sep, .slice Y dr.frac.length cy] : List Value).toArray 40) = w1 at *
  have HIL1 := HIL.out.1
  have HIL3 := HIL.out.2.2
  generalize hL : itemsF (locOf r p) dr = L at *
  generalize hN : L.length = N at *
  have HN := Lib.hid hN
  have HLE2 := Lib.hid hL
  clear hN hL
  generalize hna : (ahead (locOf r p) dr.neg).length = na at *
  have HNAE := Lib.hid hna
  clear hna
  go_upto_region 2 with (first
    | (refine wpList_load_mid rfl 40 (.tmp 3) rfl w.heap.size 0 rfl [.bool dr.neg, .slice X dr.int.length cx, .bool dr.sep, .slice Y dr.frac.length cy] _ HR1.out Tryz.underlying40 rfl infoD ?_)
    | (go_at_call 16; with_reducible refine (HIT.out _ HX1.out).mono ?_; rintro e w2 ⟨E, cE, rfl, hrE, hfE, hx2⟩))
  have hbv := Box.new w2 112 [.slice E N cE, .string ⟨#[]⟩, .slice none 0 0]
  have hx3 : Ext w2 (w2.alloc (.cells ([.slice E N cE, .string ⟨#[]⟩, .slice none 0 0] : List Value).toArray 112)) := Ext.alloc_ (Ext.refl _) _
  have HW2 := Lib.hid (HX1.out.trans hx2)
  have HB2 := Lib.hid (HB1.out.ext hx2)
  have HRE := Lib.hid hrE
  have HFE := Lib.hid hfE
  have HTX : Hid (∀ W, Ext w2 W → Calls Tryz.prog 24 #[.slice E N cE] W fun e w' => e = .returned (.string ⟨(textI L).toArray⟩) ∧ Ext W w') := Lib.hid fun W hW => item_text E N cE L W (HRE.out.below hW (Nat.le_refl _)) HN.out (by omega) HIL.out.2.1
  generalize w2.alloc (.cells ([.slice E N cE, .string ⟨#[]⟩, .slice none 0 0] : List Value).toArray 112) = w3 at *
  generalize hvb : w2.heap.size = vb at *
  have HLE : Hid (w2.heap.size ≤ vb) := Lib.hid (by omega)
  have v0 := hbv.cell (j := 0) (v := .slice E N cE) rfl
  have HX3 := Lib.hid hx3
  clear hvb hx2 hx3 hrE HIT HR1 HB1
  generalize hTX : textI L = TX at *
  have HTXE := Lib.hid hTX
  clear hTX
  go_upto_region 3 with (go_at_call 24; with_reducible refine (HTX.out _ HX3.out).mono ?_; rintro e w4 ⟨rfl, hx4⟩; have hb4 := hbv.ext hx4; have z1 := hb4.cell (j := 1) (v := .string ⟨#[]⟩) rfl; have z1f := hb4.frozen 1)
  have HH5 : Hid (Hold w2 (w4.setCell ⟨vb, 1, none⟩ (.string ⟨TX.toArray⟩)) vb E N cE TX none 0 []) := Lib.hid ⟨hb4.setCell 1 _, Acc.start_of 3 1 (Ext.setCell_ (HX3.out.trans hx4) HLE.out 1 _), HLE.out⟩
  clear v0 hbv hb4 z1 z1f hx4 HX3 HTX
  generalize w4.setCell ⟨vb, 1, none⟩ (.string ⟨TX.toArray⟩) = w5 at *
  have k0 := (HB2.out.ext HH5.out.acc.ext).cell (j := 0) (v := .bool dr.neg) rfl
  go_upto_region 5 with (go_at_call 50; with_reducible refine (HAR.out _ (HW2.out.trans HH5.out.acc.ext)).mono ?_; rintro e w6 ⟨E1, c1, F1, c2, rfl, hE1, hF1, oE1, oF1, hx6⟩)
  have HH6 := Lib.hid (HH5.out.step hx6)
  have v0 := HH6.out.cell2.1
  clear hE1 hF1 oE1 oF1 hx6 k0 HAR HH5
  have HS0 : Hid (stopsTo L na 0 = []) := Lib.hid rfl
  have HC0 : Hid (cum L 0 = 0) := Lib.hid (cum_zero L)
  have HSL := Lib.hid (stopA_len L na)
  have HCL : Hid (∀ k, cum L k ≤ 400000) := Lib.hid fun k => by have := cum_le L k; rw [HTXE.out] at this; omega
  have HSS : Hid (∀ k, stopsTo L na (k + 1) = stopsTo L na k ++ ((if k = na then [cum L k] else []) ++ stopB L k)) := Lib.hid fun k => stopsTo_succ L na k
  have HSB : Hid (∀ k x, L[k]? = some x → stopB L k = if isAt x then [cum L (k + 1)] else []) := Lib.hid fun k x hx => stopB_is hx
  have HCS : Hid (∀ k x, L[k]? = some x → cum L (k + 1) = cum L k + x.2.1.length) := Lib.hid fun k x hx => cum_succ hx
  have HSP : Hid (stopsP L na = stopsTo L na N ++ if N = na then [cum L N] else []) := Lib.hid (by unfold stopsP; rw [HN.out])
  go_upto_region 6 with fail
  go_wp2
  go_loopw [8, 9, 36] (fun v _ i wr => ∃ (k : Nat) (F : Option Addr) (cF : Nat), k ≤ N ∧ i = .int .i64 k ∧ v = .int .i64 (cum L k) ∧ Hold w2 wr vb E N cE TX F cF (stopsTo L na k)) (fun _ _ i _ => N - (intOf i).toNat)
  case atStart => exact ⟨0, none, 0, Nat.zero_le _, rfl, by rw [HC0.out]; rfl, by rw [HS0.out]; exact HH6.out⟩
  case round =>
    obtain ⟨k, F, cF, hk, rfl, rfl, hH⟩ := hrel
    have hsk := HSL.out k
    have hck := HCL.out k
    by_cases hlt : k < N
    · have hkl : k < L.length := by have := HN.out; omega
      have hck1 := HCL.out (k + 1)
      obtain ⟨bx, ox, rfl, hg⟩ := row_it (HRE.out.below hH.acc.ext (Nat.le_refl _)) hkl
      have hat := HAT.out k _ (List.getElem?_eq_getElem hkl)
      have hsb := HSB.out k _ (List.getElem?_eq_getElem hkl)
      have hcs := HCS.out k _ (List.getElem?_eq_getElem hkl)
      have HSK := Lib.hid (HSS.out k)
      generalize L[k] = x at *
      obtain ⟨tg, t, at_⟩ := x
      simp only at hg hat hcs
      have HRG := Lib.hid hg
      have hbx := Box.new wr 42 [.int .i64 tg, .string ⟨t.toArray⟩, .int .i64 at_]
      have HH7 := Lib.hid (hH.step (Ext.alloc_ (Ext.refl wr) (.cells ([.int .i64 tg, .string ⟨t.toArray⟩, .int .i64 at_] : List Value).toArray 42)))
      have HCS2 : Hid (cum L k + t.length = cum L (k + 1)) := Lib.hid hcs.symm
      have HSB2 := Lib.hid hsb
      generalize hS : stopsTo L na k = S at *
      generalize hS2 : stopsTo L na (k + 1) = S2 at *
      have HS2E := Lib.hid hS2
      clear hg hH hS hS2 hsb
      go_upto_region 8 with (first
        | (refine wpList_load_mid rfl 42 (.tmp 39) rfl bx (ox + k * 3) rfl [.int .i64 tg, .string ⟨t.toArray⟩, .int .i64 at_] _ HRG.out Tryz.underlying42 rfl infoIt ?_)
        | (refine wpList_store_fresh rfl 42 (.tmp 10) (.tmp 40) rfl ([.int .i64 tg, .string ⟨t.toArray⟩, .int .i64 at_] : List Value).toArray 42 _ rfl rfl infoIt rfl (by simp [Value.oneCell']) ?_))
      generalize wr.alloc (.cells ([.int .i64 tg, .string ⟨t.toArray⟩, .int .i64 at_] : List Value).toArray 42) = w7 at *
      generalize hb10 : wr.heap.size = b10 at *
      clear hb10
      obtain ⟨g0, g2, f2⟩ := HH7.out.cell2
      have hne10 : vb ≠ b10 := box_ne HH7.out.box hbx (by decide)
      generalize hck0 : cum L k = ck at *
      generalize hck2 : cum L (k + 1) = ck1 at *
      have e1 : (ck : Int) + (t.length : Int) = (ck1 : Int) := by have := HCS2.out; omega
      have HCK1 := Lib.hid hck2
      clear hck0 hck2 hcs
      by_cases ha : k = na
      · have ba : ((k : Int) == (na : Int)) = true := by simp [ha]
        cases hia : isAt (tg, t, at_)
        · obtain rfl := hat.2 hia
          have bm : ¬ ((-1 : Int) ≥ 0) := by decide
          have HS2 : Hid (S2 = S ++ [ck]) := Lib.hid (by rw [HSK.out, HSB2.out, hia, if_pos ha]; simp)
          clear hat hia
          go_upto_region 10 with ((at_builtin; refine wp_app ei_int rfl (.tmp 49) (.tmp 51) rfl w2 _ _ _ _ _ rfl HH7.out.acc [.int .i64 ck] 1 1 rfl rfl (by simp [Value.oneCell']) (by omega) (by unfold maxLen; omega) ?_; intro A9 c9 w9 hA9 _ hG9; obtain ⟨g09, f09⟩ := HH7.out.grown hG9; have H9 := Lib.hid (HH7.out.put hA9 hG9); have hbx := grown_obj hG9 hbx (acc_box_ne HH7.out.acc hbx (by decide))))
          have hbx9 := Box.setCell1 (cs := [.int .i64 tg, .string ⟨t.toArray⟩, .int .i64 (-1)]) hbx vb (.slice A9 (S.length + 1) c9) hne10 2
          have hs9 : (S ++ [ck]).length ≤ 2 * k + 1 := by simp; omega
          clear hbx g0 g2 f2 g09 f09 hA9 hG9 HH7
          generalize w9.setCell ⟨vb, 2, none⟩ (.slice A9 (S.length + 1) c9) = w10 at *
          generalize S ++ [ck] = S9 at *
          obtain ⟨g0, g2, f2⟩ := H9.out.cell2
          have i1 := hbx9.cell (j := 1) (v := .string ⟨t.toArray⟩) rfl
          have i2 := hbx9.cell (j := 2) (v := .int .i64 (-1)) rfl
          have hbx := hbx9
          go_wp2_with fail
          exact ⟨⟨k + 1, A9, c9, by omega, by go_num, by rw [HCK1.out]; first | done | rfl | rw [e1], by rw [HS2E.out, HS2.out]; exact H9.out⟩, by simp [intOf]; omega⟩
        · have hge := hat.1 hia
          have bm : at_ ≥ 0 := hge
          have HS2 : Hid (S2 = (S ++ [ck]) ++ [ck1]) := Lib.hid (by rw [HSK.out, HSB2.out, hia, if_pos ha]; simp)
          clear hat hia
          go_upto_region 10 with ((at_builtin; refine wp_app ei_int rfl (.tmp 49) (.tmp 51) rfl w2 _ _ _ _ _ rfl HH7.out.acc [.int .i64 ck] 1 1 rfl rfl (by simp [Value.oneCell']) (by omega) (by unfold maxLen; omega) ?_; intro A9 c9 w9 hA9 _ hG9; obtain ⟨g09, f09⟩ := HH7.out.grown hG9; have H9 := Lib.hid (HH7.out.put hA9 hG9); have hbx := grown_obj hG9 hbx (acc_box_ne HH7.out.acc hbx (by decide))))
          have hbx9 := Box.setCell1 (cs := [.int .i64 tg, .string ⟨t.toArray⟩, .int .i64 at_]) hbx vb (.slice A9 (S.length + 1) c9) hne10 2
          have hs9 : (S ++ [ck]).length ≤ 2 * k + 1 := by simp; omega
          clear hbx g0 g2 f2 g09 f09 hA9 hG9 HH7
          generalize w9.setCell ⟨vb, 2, none⟩ (.slice A9 (S.length + 1) c9) = w10 at *
          generalize S ++ [ck] = S9 at *
          obtain ⟨g0, g2, f2⟩ := H9.out.cell2
          have i1 := hbx9.cell (j := 1) (v := .string ⟨t.toArray⟩) rfl
          have i2 := hbx9.cell (j := 2) (v := .int .i64 at_) rfl
          have hbx := hbx9
          go_wp2_with ((at_builtin; refine wp_app ei_int rfl (.tmp 67) (.tmp 69) rfl w2 _ _ _ _ _ rfl H9.out.acc [.int .i64 ck1] 1 1 rfl rfl (by simp [Value.oneCell']) (by omega) (by unfold maxLen; omega) ?_; intro A11 c11 w11 hA11 _ hG11; obtain ⟨g011, f011⟩ := H9.out.grown hG11; have H11 := Lib.hid (H9.out.put hA11 hG11); have hbx := grown_obj hG11 hbx (acc_box_ne H9.out.acc hbx (by decide))))
          exact ⟨⟨k + 1, A11, c11, by omega, by go_num, by rw [HCK1.out]; first | done | rfl | rw [e1], by rw [HS2E.out, HS2.out]; exact H11.out⟩, by simp [intOf]; omega⟩
      · have ba : ((k : Int) == (na : Int)) = false := by simp; omega
        have i1 := hbx.cell (j := 1) (v := .string ⟨t.toArray⟩) rfl
        have i2 := hbx.cell (j := 2) (v := .int .i64 at_) rfl
        cases hia : isAt (tg, t, at_)
        · obtain rfl := hat.2 hia
          have bm : ¬ ((-1 : Int) ≥ 0) := by decide
          have HS2 : Hid (S2 = S) := Lib.hid (by rw [HSK.out, HSB2.out, hia, if_neg ha]; simp)
          clear hat hia
          go_wp2_with fail
          exact ⟨⟨k + 1, F, cF, by omega, by go_num, by rw [HCK1.out]; first | done | rfl | rw [e1], by rw [HS2E.out, HS2.out]; exact HH7.out⟩, by simp [intOf]; omega⟩
        · have hge := hat.1 hia
          have bm : at_ ≥ 0 := hge
          have HS2 : Hid (S2 = S ++ [ck1]) := Lib.hid (by rw [HSK.out, HSB2.out, hia, if_neg ha]; simp)
          clear hat hia
          go_wp2_with ((at_builtin; refine wp_app ei_int rfl (.tmp 67) (.tmp 69) rfl w2 _ _ _ _ _ rfl HH7.out.acc [.int .i64 ck1] 1 1 rfl rfl (by simp [Value.oneCell']) (by omega) (by unfold maxLen; omega) ?_; intro A11 c11 w11 hA11 _ hG11; obtain ⟨g011, f011⟩ := HH7.out.grown hG11; have H11 := Lib.hid (HH7.out.put hA11 hG11); have hbx := grown_obj hG11 hbx (acc_box_ne HH7.out.acc hbx (by decide))))
          exact ⟨⟨k + 1, A11, c11, by omega, by go_num, by rw [HCK1.out]; first | done | rfl | rw [e1], by rw [HS2E.out, HS2.out]; exact H11.out⟩, by simp [intOf]; omega⟩
    · have e : k = N := by omega
      subst e
      obtain ⟨g0, g2, f2⟩ := hH.cell2
      have HHK := Lib.hid hH
      have HXE := Lib.hid hH.acc.ext
      clear hH
      by_cases ha : k = na
      · have ba : ((k : Int) == (na : Int)) = true := by simp [ha]
        have HSQ : Hid (stopsP L na = stopsTo L na k ++ [cum L k]) := Lib.hid (by rw [HSP.out, if_pos ha])
        generalize stopsTo L na k = S at *
        generalize cum L k = ck at *
        have hbx := HHK.out.box
        go_wp2_with ((at_builtin; refine wp_app ei_int rfl (.tmp 86) (.tmp 88) rfl w2 _ _ _ _ _ rfl HHK.out.acc [.int .i64 ck] 1 1 rfl rfl (by simp [Value.oneCell']) (by omega) (by unfold maxLen; omega) ?_; intro A9 c9 w9 hA9 _ hG9; obtain ⟨g09, f09⟩ := HHK.out.grown hG9; have H9 := Lib.hid (HHK.out.put hA9 hG9)))
        go_ret
        exact ⟨vb, E, cE, A9, c9, rfl, by rw [HLE2.out, HNAE.out]; exact ⟨⟨by rw [HSQ.out, HN.out, HTXE.out]; exact H9.out.box, HRE.out.below H9.out.acc.ext (Nat.le_refl _), by rw [HSQ.out]; exact H9.out.acc.row⟩, Nat.le_trans HW2.out.size H9.out.le, HFE.out, fun x hx => Nat.le_trans HW2.out.size (H9.out.acc.own.lt x.block (by rw [hx]; rfl)).1⟩, HW2.out.trans H9.out.acc.ext⟩
      · have ba : ((k : Int) == (na : Int)) = false := by simp; omega
        have HSQ : Hid (stopsP L na = stopsTo L na k) := Lib.hid (by rw [HSP.out, if_neg ha]; simp)
        generalize stopsTo L na k = S at *
        go_wp2_with fail
        go_ret
        exact ⟨vb, E, cE, F, cF, rfl, by rw [HLE2.out, HNAE.out]; exact ⟨⟨by rw [HSQ.out, HN.out, HTXE.out]; exact HHK.out.box, HRE.out.below HXE.out (Nat.le_refl _), by rw [HSQ.out]; exact HHK.out.acc.row⟩, Nat.le_trans HW2.out.size HHK.out.le, HFE.out, fun x hx => Nat.le_trans HW2.out.size (HHK.out.acc.own.lt x.block (by rw [hx]; rfl)).1⟩, HW2.out.trans HXE.out⟩
end Go.Proofs.YthoicieckodneaaGreatDoor.Loc
