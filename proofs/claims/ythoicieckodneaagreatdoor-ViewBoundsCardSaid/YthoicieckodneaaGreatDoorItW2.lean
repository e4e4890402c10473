/- Walk: item.Items. -/
import Derived.Test.YthoicieckodneaaGreatDoorItW1
import Derived.Test.YthoicieckodneaaGreatDoorDrW
import Derived.Test.YthoicieckodneaaGreatDoorEnds
namespace Go.Proofs.YthoicieckodneaaGreatDoor.Loc
open Go.RowKit Utf All Small Strs Build EncC Pat Cls Dec Go.Proofs.YthoicieckodneaaGreatDoor.Sys
set_option linter.unusedVariables false
set_option linter.unusedSimpArgs false

theorem infoD : (Tryz.prog.info? 40).map (·.size) = some 4 := by kernel_rfl
theorem ints_len2 (l : Loc) (xs : List Int) : ∀ k, (intsTo l xs k).length ≤ 2 * k
  | 0 => by simp [intsTo]
  | k + 1 => by
    have := ints_len2 l xs k
    rw [intsTo_succ, List.length_append]
    have hg : (grpAt l ((xs.length : Int) - 1 - k)).length ≤ 1 := by unfold grpAt; split <;> simp
    unfold intF
    simp only [List.length_cons]; omega
set_option maxHeartbeats 16000000 in
set_option maxRecDepth 100000 in
theorem item_items (g : Nat) (A B C D X Y : Option Addr) (c d a b cx cy : Nat) (dr : Dr) (l : Loc) (w : World) (h : LocR w g A B C D c d a b l) (hb : LocB l) (hn : 0 ≤ l.p.num.prim ∧ l.p.num.prim ≤ 100 ∧ 0 ≤ l.p.num.sec ∧ l.p.num.sec ≤ 100)
    (hd : DrR w X Y dr) (hi : dr.int.length ≤ 100) (hf : dr.frac.length ≤ 100) :
    Calls Tryz.prog 16 #[.pointer (some ⟨g, 0, none⟩), .agg (drV X cx Y cy dr).toArray] w fun e w' => ∃ E c', e = .returned (.slice E (itemsF l dr).length c') ∧ Acc 42 3 w w' E c' (itemsF l dr).length (itsV (itemsF l dr)) := by
  have HL := Lib.hid h
  have HD := Lib.hid hd
  have hpb : ∀ q ∈ affs l, q.length ≤ 1000 := hb.len
  have hla : (ahead l dr.neg).length ≤ 1000 := Nat.le_trans (parts_len _ _) (by cases dr.neg; exact hpb _ (by simp [affs]); exact hpb _ (by simp [affs]))
  have hlb : (behind l dr.neg).length ≤ 1000 := Nat.le_trans (parts_len _ _) (by cases dr.neg; exact hpb _ (by simp [affs]); exact hpb _ (by simp [affs]))
  have HAR : Hid (∀ W, Ext w W → Calls Tryz.prog 50 #[.pointer (some ⟨g, 0, none⟩), .bool dr.neg] W fun e w' => ∃ E c1 F c2, e = .returned (.tuple #[.slice E (ahead l dr.neg).length c1, .slice F (behind l dr.neg).length c2]) ∧ Row w' E (prtV (ahead l dr.neg)) ∧ Row w' F (prtV (behind l dr.neg)) ∧ Okc E c1 ∧ Okc F c2 ∧ Ext W w') := Lib.hid fun W hW => around_l g A B C D c d a b dr.neg l W (HL.out.ext hW) hb
  have HSZ : Hid (∀ W, Ext w W → Calls Tryz.prog 51 #[.pointer (some ⟨g, 0, none⟩)] W fun e w' => e = .returned (.tuple #[.int .i64 l.p.num.prim, .int .i64 l.p.num.sec]) ∧ Ext W w') := Lib.hid fun W hW => sizes_l g A B C D c d a b l W (HL.out.ext hW)
  have HPA : Hid (∀ W X n k0 ps, Ext w W → Row W X (prtV ps) → ps.length = n → n ≤ 2000 → Calls Tryz.prog 52 #[.pointer (some ⟨g, 0, none⟩), .slice X n k0] W fun e w' => ∃ E c', e = .returned (.slice E n c') ∧ Acc 42 3 W w' E c' n (itsV (ps.map (prtI l.r)))) := Lib.hid fun W X n k0 ps hW hX hps hle => item_parts g A B C D X c d a b n k0 ps l W (HL.out.ext hW) hX hps hle
  have HDG : Hid (∀ W x, Ext w W → Calls Tryz.prog 53 #[.pointer (some ⟨g, 0, none⟩), .int .i64 x] W fun e w' => e = .returned (.string ⟨(digZ l x).toArray⟩) ∧ Ext W w') := Lib.hid fun W x hW => digit_l g A B C D c d a b x l W (HL.out.ext hW) hb.ten
  have HRC : Hid (∀ W, Ext w W → Calls Tryz.prog 55 #[.pointer (some ⟨g, 0, none⟩)] W fun e w' => e = .returned (.agg ([.string ⟨l.r.name.toArray⟩, .string ⟨l.r.pattern.toArray⟩, .string ⟨l.r.system.toArray⟩, .string ⟨l.r.decimal.toArray⟩, .string ⟨l.r.group.toArray⟩, .string ⟨l.r.minus.toArray⟩, .string ⟨l.r.percent.toArray⟩, .string ⟨l.r.currency.toArray⟩] : List Value).toArray) ∧ Ext W w') := Lib.hid fun W hW => record_l g A B C D c d a b l W (HL.out.ext hW)
  have HI : Hid (∀ k, intsTo l dr.int (k + 1) = intsTo l dr.int k ++ (digI l (dr.int.getD k 0) k :: grpAt l ((dr.int.length : Int) - 1 - k))) := Lib.hid fun k => intsTo_succ l dr.int k
  have HI0 : Hid (intsTo l dr.int 0 = []) := Lib.hid rfl
  have HF : Hid (∀ k, fracTo l dr.int.length dr.frac (k + 1) = fracTo l dr.int.length dr.frac k ++ [digI l (dr.frac.getD k 0) ((dr.int.length : Int) + 1 + k)]) := Lib.hid fun k => fracTo_succ l dr.int.length dr.frac k
  have HF0 : Hid (fracTo l dr.int.length dr.frac 0 = []) := Lib.hid rfl
  have HLI : Hid (∀ k, (intsTo l dr.int k).length ≤ 2 * k) := Lib.hid fun k => ints_len2 l dr.int k
  have HLF : Hid (∀ k, (fracTo l dr.int.length dr.frac k).length = k) := Lib.hid fun k => fracTo_len l dr.int.length dr.frac k
  have HGR : Hid (∀ z, grpAt l z = if Ends.itemEnds z l.p.num.prim l.p.num.sec then [(3, l.r.group, -1)] else []) := Lib.hid fun z => rfl
  have HDE : Hid (decI l dr = if dr.sep then [(4, l.r.decimal, (dr.int.length : Int))] else []) := Lib.hid rfl
  have HIT : Hid (itemsF l dr = (((ahead l dr.neg).map (prtI l.r) ++ intsTo l dr.int dr.int.length) ++ decI l dr ++ fracTo l dr.int.length dr.frac dr.frac.length) ++ (behind l dr.neg).map (prtI l.r)) := Lib.hid (by unfold itemsF midF; simp only [List.append_assoc])
  have b1 := Box.new w 40 (drV X cx Y cy dr)
  have hx1 : Ext w (w.alloc (.cells (drV X cx Y cy dr).toArray 40)) := Ext.alloc_ (Ext.refl w) _
  have k0 := b1.cell (j := 0) (v := .bool dr.neg) rfl
  have HX1 := Lib.hid hx1
  have HB1 := Lib.hid b1
  clear h hd hb hpb b1 hx1
  go_enter Tryz.func16, Tryz.ntmps16
  go_upto_region 1 with fail
  change Code.wp _ _ _ _ (w.alloc (.cells (drV X cx Y cy dr).toArray 40))
  generalize w.alloc (.cells (drV X cx Y cy dr).toArray 40) = w1 at *
  generalize w.heap.size = db at *
  generalize ahead l dr.neg = PA at *
  generalize behind l dr.neg = PB at *
  generalize decI l dr = DE at *
  generalize HT : itemsF l dr = IT at *
  have HTT := Lib.hid HT
  clear HT
  obtain ⟨neg, xs, sep, ys⟩ := dr
  simp only at *
  go_upto_region 4 with (first
    | (go_at_call 50; with_reducible refine (HAR.out _ HX1.out).mono ?_; rintro e w2 ⟨E1, c1, F1, c2, rfl, hE1, hF1, oE1, oF1, hx2⟩)
    | (go_at_call 51; with_reducible refine (HSZ.out _ (HX1.out.trans hx2)).mono ?_; rintro e w3 ⟨rfl, hx3⟩)
    | (go_at_call 52; with_reducible refine (HPA.out _ _ _ _ PA (HX1.out.trans (hx2.trans hx3)) (hE1.below hx3 (Nat.le_refl _)) rfl (by omega)).mono ?_; rintro e w4 ⟨E4, c4, rfl, hA4⟩))
  have HX3 := Lib.hid (hx2.trans hx3)
  have HF3 := Lib.hid (hF1.below hx3 (Nat.le_refl _))
  have k1 := (HB1.out.ext (HX3.out.trans hA4.ext)).cell (j := 1) (v := .slice X xs.length cx) rfl
  have HA4 := Lib.hid hA4
  have HW3 := Lib.hid (HX1.out.trans HX3.out)
  clear hE1 hF1 oE1 oF1 hx2 hx3 hA4 HAR HSZ k0
  generalize hna : PA.length = na at *
  have HNA := Lib.hid hna
  clear hna
  generalize hPV : PA.map (prtI l.r) = PV at *
  have HPV := Lib.hid hPV
  clear hPV
  go_upto_region 6 with fail
  go_wp2
  go_loopw [9, 11, 32] (fun v _ i wr => ∃ (k : Nat) (E : Option Addr) (c' m : Nat), k ≤ xs.length ∧ i = .int .i64 k ∧ v = .slice E m c' ∧ m = na + (intsTo l xs k).length ∧ Acc 42 3 w3 wr E c' m (itsV (PV ++ intsTo l xs k))) (fun _ _ i _ => xs.length - (intOf i).toNat)
  case atStart => exact ⟨0, E4, c4, na, Nat.zero_le _, rfl, rfl, by rw [HI0.out]; rfl, by rw [HI0.out, List.append_nil]; exact HA4.out⟩
  case round =>
    obtain ⟨k, E, c', m, hk, rfl, rfl, hm, hacc⟩ := hrel
    have hml := HLI.out k
    by_cases hlt : k < xs.length
    · have k1r := (HB1.out.ext (HX3.out.trans hacc.ext)).cell (j := 1) (v := .slice X xs.length cx) rfl
      obtain ⟨bx, ox, rfl, hc⟩ := row_ints (HD.out.int.below (HW3.out.trans hacc.ext) (Nat.le_refl _)) hlt
      have HA := Lib.hid hacc
      have hxw := HW3.out.trans hacc.ext
      have HS := Lib.hid (HI.out k)
      have HM := Lib.hid hm
      generalize xs.getD k 0 = x at *
      have i1 : (k : Int) < (xs.length : Int) := by omega
      have i2 : (0 : Int) ≤ (k : Int) := by omega
      clear hacc hm
      have hm2 : m ≤ 2000 := by have := HM.out; omega
      cases he : Ends.itemEnds ((xs.length : Int) - 1 - k) l.p.num.prim l.p.num.sec
      · have HE := Lib.hid he
        clear he
        have HS2 : Hid (itsV (PV ++ intsTo l xs (k + 1)) = itsV (PV ++ intsTo l xs k) ++ [.int .i64 2, .string ⟨(digZ l x).toArray⟩, .int .i64 k] ∧ m + 1 = na + (intsTo l xs (k + 1)).length) := Lib.hid (by
          rw [HS.out, HGR.out, HE.out, ← List.append_assoc, its_app, List.length_append]
          exact ⟨rfl, by have := HM.out; simp; omega⟩)
        generalize itsV (PV ++ intsTo l xs k) = T1 at *
        go_wp2_with (first
          | (go_at_call 53; with_reducible refine (HDG.out _ x hxw).mono ?_; rintro e w8 ⟨rfl, hx8⟩; have HA8 := Lib.hid (HA.out.step hx8))
          | (at_builtin; refine wp_app ei_it rfl (.tmp 35) (.tmp 45) rfl w3 _ E c' m _ rfl HA8.out [.int .i64 2, .string ⟨(digZ l x).toArray⟩, .int .i64 k] 1 1 rfl rfl (by simp [Value.oneCell']) (by omega) (by unfold maxLen; omega) ?_; intro A1 c1 w9 hA9 _ _; have HA9 := Lib.hid hA9)
          | (go_at_call 54; refine (Ends.item_ends _ _ _ _ (by omega) (by omega) (by omega)).mono ?_; rintro e w10 ⟨rfl, rfl⟩; rw [HE.out]))
        exact ⟨⟨k + 1, A1, c1, m + 1, by omega, by go_num, rfl, HS2.out.2, by rw [HS2.out.1]; exact HA9.out⟩, by simp [intOf]; omega⟩
      · have HE := Lib.hid he
        clear he
        have HS2 : Hid (itsV (PV ++ intsTo l xs (k + 1)) = itsV (PV ++ intsTo l xs k) ++ [.int .i64 2, .string ⟨(digZ l x).toArray⟩, .int .i64 k] ++ [.int .i64 3, .string ⟨l.r.group.toArray⟩, .int .i64 (-1)] ∧ m + 1 + 1 = na + (intsTo l xs (k + 1)).length) := Lib.hid (by
          rw [HS.out, HGR.out, HE.out, ← List.append_assoc, its_app, List.length_append]
          refine ⟨?_, by have := HM.out; simp; omega⟩
          rw [List.append_assoc]; rfl)
        generalize itsV (PV ++ intsTo l xs k) = T1 at *
        go_wp2_with (first
          | (go_at_call 53; with_reducible refine (HDG.out _ x hxw).mono ?_; rintro e w8 ⟨rfl, hx8⟩; have HA8 := Lib.hid (HA.out.step hx8))
          | (at_builtin; refine wp_app ei_it rfl (.tmp 35) (.tmp 45) rfl w3 _ E c' m _ rfl HA8.out [.int .i64 2, .string ⟨(digZ l x).toArray⟩, .int .i64 k] 1 1 rfl rfl (by simp [Value.oneCell']) (by omega) (by unfold maxLen; omega) ?_; intro A1 c1 w9 hA9 _ _; have HA9 := Lib.hid hA9)
          | (go_at_call 54; refine (Ends.item_ends _ _ _ _ (by omega) (by omega) (by omega)).mono ?_; rintro e w10 ⟨rfl, rfl⟩; rw [HE.out])
          | (go_at_call 55; with_reducible refine (HRC.out _ (HW3.out.trans HA9.out.ext)).mono ?_; rintro e w11 ⟨rfl, hx11⟩; have HA11 := Lib.hid (HA9.out.step hx11))
          | (rw [run_field4]; simp only [Result.andThen]; rw [Oper.upon_value])
          | (at_builtin; refine wp_app ei_it rfl (.tmp 54) (.tmp 59) rfl w3 _ A1 c1 (m + 1) _ rfl HA11.out [.int .i64 3, .string ⟨l.r.group.toArray⟩, .int .i64 (-1)] 1 1 rfl rfl (by simp [Value.oneCell']) (by omega) (by unfold maxLen; omega) ?_; intro A2 c2 w12 hA12 _ _; have HA12 := Lib.hid hA12))
        exact ⟨⟨k + 1, A2, c2, m + 1 + 1, by omega, by go_num, rfl, HS2.out.2, by rw [HS2.out.1]; exact HA12.out⟩, by simp [intOf]; omega⟩
    · have e : k = xs.length := by omega
      subst e
      have i1 : ¬ ((xs.length : Int) < (xs.length : Int)) := by omega
      have HA := Lib.hid hacc
      have HM := Lib.hid hm
      have hm2 : m ≤ 2000 := by omega
      have k2 := (HB1.out.ext (HX3.out.trans hacc.ext)).cell (j := 2) (v := .bool sep) rfl
      have hxw := HW3.out.trans hacc.ext
      clear hacc hm
      generalize PV ++ intsTo l xs xs.length = T1 at *
      go_upto_if 63 with fail
      go_cut [9] (fun v wx => ∃ (E : Option Addr) (c' m' : Nat), v = .slice E m' c' ∧ m' = m + DE.length ∧ m' ≤ 2001 ∧ Acc 42 3 w3 wx E c' m' (itsV (T1 ++ DE)))
      case first =>
        cases sep
        · have HDX : Hid (DE = []) := Lib.hid (by rw [HDE.out]; rfl)
          go_wp2_with fail
          go_meet
          exact ⟨E, c', m, rfl, by rw [HDX.out]; rfl, by omega, by rw [HDX.out, List.append_nil]; exact HA.out⟩
        · have HDX : Hid (DE = [(4, l.r.decimal, (xs.length : Int))]) := Lib.hid (by rw [HDE.out]; rfl)
          go_wp2_with (first
            | (go_at_call 55; with_reducible refine (HRC.out _ hxw).mono ?_; rintro e w11 ⟨rfl, hx11⟩; have HA11 := Lib.hid (HA.out.step hx11))
            | (rw [run_field3]; simp only [Result.andThen]; rw [Oper.upon_value])
            | (at_builtin; refine wp_app ei_it rfl (.tmp 64) (.tmp 70) rfl w3 _ E c' m _ rfl HA11.out [.int .i64 4, .string ⟨l.r.decimal.toArray⟩, .int .i64 xs.length] 1 1 rfl rfl (by simp [Value.oneCell']) (by omega) (by unfold maxLen; omega) ?_; intro A2 c2 w12 hA12 _ _; have HA12 := Lib.hid hA12))
          go_meet
          exact ⟨A2, c2, m + 1, rfl, by rw [HDX.out]; rfl, by omega, by rw [HDX.out, its_app]; exact HA12.out⟩
      case rest =>
        obtain ⟨E2, c2, m2, rfl, hm2', hm22, hA2⟩ := hcut
        have HM2 := Lib.hid hm2'
        have k3 := (HB1.out.ext (HX3.out.trans hA2.ext)).cell (j := 3) (v := .slice Y ys.length cy) rfl
        have HA2 := Lib.hid hA2
        clear hA2 hm2' k2 HA
        generalize T1 ++ DE = T2 at *
        go_upto_region 15 with fail
        go_wp2
        go_loopw [9, 12, 75] (fun v _ i wr => ∃ (k : Nat) (E : Option Addr) (c' : Nat), k ≤ ys.length ∧ i = .int .i64 k ∧ v = .slice E (m2 + k) c' ∧ Acc 42 3 w3 wr E c' (m2 + k) (itsV (T2 ++ fracTo l xs.length ys k))) (fun _ _ i _ => ys.length - (intOf i).toNat)
        case atStart => exact ⟨0, E2, c2, Nat.zero_le _, rfl, rfl, by rw [HF0.out, List.append_nil]; exact HA2.out⟩
        case round =>
          obtain ⟨k, E, c', hk, rfl, rfl, hacc⟩ := hrel
          by_cases hlt : k < ys.length
          · have k3r := (HB1.out.ext (HX3.out.trans hacc.ext)).cell (j := 3) (v := .slice Y ys.length cy) rfl
            obtain ⟨bx, ox, rfl, hc⟩ := row_ints (HD.out.frac.below (HW3.out.trans hacc.ext) (Nat.le_refl _)) hlt
            have HA := Lib.hid hacc
            have hxw := HW3.out.trans hacc.ext
            have HS := Lib.hid (HF.out k)
            generalize ys.getD k 0 = x at *
            have i1 : (k : Int) < (ys.length : Int) := by omega
            have i2 : (0 : Int) ≤ (k : Int) := by omega
            clear hacc k3
            have HS2 : Hid (itsV (T2 ++ fracTo l xs.length ys (k + 1)) = itsV (T2 ++ fracTo l xs.length ys k) ++ [.int .i64 2, .string ⟨(digZ l x).toArray⟩, .int .i64 ((xs.length : Int) + 1 + k)]) := Lib.hid (by
              rw [HS.out, ← List.append_assoc, its_app]; rfl)
            generalize itsV (T2 ++ fracTo l xs.length ys k) = T3 at *
            go_wp2_with (first
              | (go_at_call 53; with_reducible refine (HDG.out _ x hxw).mono ?_; rintro e w8 ⟨rfl, hx8⟩; have HA8 := Lib.hid (HA.out.step hx8))
              | (at_builtin; refine wp_app ei_it rfl (.tmp 78) (.tmp 91) rfl w3 _ E c' (m2 + k) _ rfl HA8.out [.int .i64 2, .string ⟨(digZ l x).toArray⟩, .int .i64 ((xs.length : Int) + 1 + k)] 1 1 rfl rfl (by simp [Value.oneCell']) (by omega) (by unfold maxLen; omega) ?_; intro A1 c1 w9 hA9 _ _; have HA9 := Lib.hid hA9))
            exact ⟨⟨k + 1, A1, c1, by omega, by go_num, rfl, by rw [HS2.out]; exact HA9.out⟩, by simp [intOf]; omega⟩
          · have e : k = ys.length := by omega
            subst e
            have i1 : ¬ ((ys.length : Int) < (ys.length : Int)) := by omega
            have HA := Lib.hid hacc
            have hxw := HW3.out.trans hacc.ext
            have hrF := HF3.out.below hacc.ext (Nat.le_refl _)
            have HIT2 : Hid (IT = (T2 ++ fracTo l xs.length ys ys.length) ++ PB.map (prtI l.r)) := Lib.hid (HIT.out)
            have HLT : Hid (IT.length = m2 + ys.length + PB.length) := Lib.hid (by
              have h1 := HA.out.len
              rw [its_len] at h1
              rw [HIT2.out, List.length_append, List.length_map]; omega)
            clear hacc
            generalize T2 ++ fracTo l xs.length ys ys.length = T3 at *
            go_wp2_with (first
              | (go_at_call 52; with_reducible refine (HPA.out _ _ _ _ PB hxw hrF rfl (by omega)).mono ?_; rintro e w6 ⟨F6, c6, rfl, hA6⟩; have HA6 := Lib.hid hA6; have HB6 := Lib.hid (HA.out.step hA6.ext))
              | (at_builtin; refine wp_src ei_it rfl (.tmp 94) (.tmp 97) rfl w3 _ E c' (m2 + ys.length) _ rfl HB6.out F6 PB.length c6 (itsV (PB.map (prtI l.r))) rfl HA6.out.row (Acc.okc HA6.out) HA6.out.len (its_oneCell _) (by omega) (by unfold maxLen; omega) ?_; intro A9 c9 w9 hA9 _))
            go_ret
            exact ⟨A9, c9, by rw [HTT.out, HLT.out]; first | done | rfl, by rw [HTT.out, HLT.out, HIT2.out, its_app]; exact hA9.base HW3.out⟩
end Go.Proofs.YthoicieckodneaaGreatDoor.Loc
