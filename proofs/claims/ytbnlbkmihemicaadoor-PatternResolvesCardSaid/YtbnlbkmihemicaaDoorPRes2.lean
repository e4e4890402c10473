/- The law PatternResolves: its walk. -/
import Derived.Test.YtbnlbkmihemicaaDoorPRes
namespace Go.Proofs.YtbnlbkmihemicaaDoor.Pat
open Go.RowKit Utf All Small Strs Build EncC
set_option linter.unusedVariables false
set_option linter.unusedSimpArgs false

theorem of_n (A : Option Addr) (c n : Nat) (l : List Pc) (w : World) (hn : l.length = n) (hr : Row w A (pcsV l)) (hl : l.length ≤ 1000) :
    Calls Tryd.prog 10 #[.slice A n c] w fun e w' => ∃ B d, e = .returned (.slice B n d) ∧ Row w' B (pcsV l) ∧ Ext w w' := by subst hn; exact of_ A c l w hr hl
theorem resolve_n (A : Option Addr) (c n : Nat) (cur per min : List UInt8) (l : List Pc) (w : World) (hn : l.length = n) (hA : Row w A (pcsV l)) (hl : l.length ≤ 1000) (hc : cur.length ≤ 100000) (hp : per.length ≤ 100000) (hm : min.length ≤ 100000) (hk : ∀ p ∈ l, p.2.length ≤ 100000) :
    Calls Tryd.prog 9 #[.slice A n c, .string ⟨cur.toArray⟩, .string ⟨per.toArray⟩, .string ⟨min.toArray⟩] w fun e w' => e = .returned (.string ⟨(resF cur per min l).toArray⟩) ∧ Ext w w' := by subst hn; exact resolve_ A c cur per min l w hA hl hc hp hm hk
theorem resolve_refn (A : Option Addr) (c n : Nat) (cur per min : List UInt8) (l : List Pc) (w : World) (hn : l.length = n) (hA : Row w A (pcsV l)) (hl : l.length ≤ 1000) (hc : cur.length ≤ 100000) (hp : per.length ≤ 100000) (hm : min.length ≤ 100000) (hk : ∀ p ∈ l, 0 ≤ p.1 ∧ p.1 < 4 ∧ p.2.length ≤ 6) :
    Calls Tryd.prog 11 #[.slice A n c, .string ⟨cur.toArray⟩, .string ⟨per.toArray⟩, .string ⟨min.toArray⟩] w fun e w' => e = .returned (.string ⟨(resF cur per min l).toArray⟩) ∧ Ext w w' := by subst hn; exact resolve_ref A c cur per min l w hA hl hc hp hm hk
theorem cnt_snoc (n : Int) {l : List Pc} {k : Nat} (hk : k < l.length) : cntK n (l.take (k + 1)) = cntK n (l.take k) + (if l[k].1 == n then 1 else 0) := by
  unfold cntK
  rw [List.take_succ_eq_append_getElem hk, List.countP_append, List.countP_singleton]; rfl
theorem take6 (l : List UInt8) : (l.take 6).length ≤ 100000 := by simp; omega
set_option maxHeartbeats 2000000 in
set_option maxRecDepth 1000000 in
theorem law_PatternResolves (A : Option Addr) (cA : Nat) (xs : List Pc) (sa sb sc : List UInt8) (kd : Int) (w : World) (hr : Row w A (pcsV xs)) (hlx : xs.length ≤ maxLen) (hxs : ∀ x ∈ xs, i64 x.1 ∧ x.2.length ≤ maxLen)
    (ha : sa.length ≤ maxLen) (hb : sb.length ≤ maxLen) (hc : sc.length ≤ maxLen) (hk : i64 kd) (h0 : 0 < w.heap.size) (HM : ∃ m, w.cell? ⟨0, 0, none⟩ = some (.int .i64 m)) :
    Calls Tryd.prog 3 #[.slice A xs.length cA, .string ⟨sa.toArray⟩, .string ⟨sb.toArray⟩, .string ⟨sc.toArray⟩, .int .i64 kd] w fun e w' => e = .returned (.bool true) ∧ Below w.heap.size w w' := by
  have HXS := Lib.hid hxs
  clear hxs
  unfold maxLen at hlx
  go_enter Tryd.func3, Tryd.ntmps3
  go_wp2
  go_loopw [11, 12] (fun o i wr => ∃ (k : Nat) (B : Option Addr) (d : Nat), k ≤ xs.length ∧ k ≤ 8 ∧ i = .int .i64 k ∧ o = .slice B k d ∧ Acc 25 2 w wr B d k (pcsV ((xs.take k).map ownP))) (fun _ i _ => 8 - (intOf i).toNat)
  case atStart => exact ⟨0, none, 0, Nat.zero_le _, by omega, rfl, rfl, Acc.start _ _ _⟩
  case round =>
    obtain ⟨k, B, d, hkl, hk8, rfl, rfl, hacc⟩ := hrel
    by_cases hlt : k < xs.length ∧ k < 8
    · obtain ⟨hlt, hlt8⟩ := hlt
      obtain ⟨b, off, rfl, hw1, hw2⟩ := row_pc hr hlt
      have hc1 := Ext.cell_ hacc.ext hw1
      have hc2 := Ext.cell_ hacc.ext hw2
      have HT : Hid (pcsV ((xs.take (k + 1)).map ownP) = pcsV ((xs.take k).map ownP) ++ pcsV [ownP xs[k]]) := Lib.hid (by rw [own_snoc hlt, pcsV_app])
      obtain ⟨hx1, hx2⟩ := HXS.out _ (List.getElem_mem hlt)
      generalize xs[k] = x at *
      have hg1 : (k : Int) < (xs.length : Int) := by omega
      have hg2 : (k : Int) < 8 := by omega
      have hg3 : (0 : Int) ≤ (k : Int) := by omega
      have HA : Hid (∀ W, Calls Tryd.prog 7 #[.int .i64 x.1, .int .i64 4] W fun e w' => e = .returned (.int .i64 (ownP x).1) ∧ W = w') := Lib.hid fun W => around x.1 4 W hx1.1 hx1.2 (by decide) (by decide)
      have HF : Hid (∀ W, Calls Tryd.prog 8 #[.string ⟨x.2.toArray⟩, .int .i64 6] W fun e w' => e = .returned (.string ⟨(ownP x).2.toArray⟩) ∧ W = w') := Lib.hid fun W => few_l x.2 6 W hx2 (by decide)
      go_upto_region 5 with fail
      go_region_held3 (fun W => W.cell? ⟨b, off + k * 2, none⟩ = some (.int .i64 x.1) ∧ W.cell? ⟨b, off + k * 2 + 1, none⟩ = some (.string ⟨x.2.toArray⟩))
        (first | exact ⟨hc1, hc2⟩ | assumption | exact ⟨Ext.cell_ (Acc.ext (by assumption)) hw1, Ext.cell_ (Acc.ext (by assumption)) hw2⟩ | exact ⟨Ext.cell_ (Ext.drew_ (Ext.alloc_ (Ext.refl _) _)) hc1, Ext.cell_ (Ext.drew_ (Ext.alloc_ (Ext.refl _) _)) hc2⟩)
        (first
          | (go_at_call 7; with_reducible refine (HA.out _).mono ?_; rintro e w4 ⟨rfl, rfl⟩)
          | (go_at_call 8; with_reducible refine (HF.out _).mono ?_; rintro e w4 ⟨rfl, rfl⟩)
          | (refine step_app_drew ei_b (by rfl) (.tmp 26) (.tmp 40) (by rfl) w wr B d k _ (by simp [Act.eval, Act.put]) hacc [.int .i64 (ownP x).1, .string ⟨(ownP x).2.toArray⟩] 1 1 wr.heap.size (by simp [Act.eval, Act.put]) (by rfl) (by rfl) (by simp [Value.oneCell']) (by omega) (by unfold maxLen; omega) ?_; intro A1 c1 w4 hacc4 _ _))
      all_goals go_wp2_with fail
      all_goals exact ⟨⟨k + 1, A1, c1, by omega, by omega, by go_num, rfl, by rw [HT.out]; exact hacc4⟩, by simp [intOf] <;> omega⟩
    · have HOW : Hid ((xs.take k).map ownP = ownL xs) := Lib.hid (by
        unfold ownL
        rcases (by omega : k = 8 ∨ (k = xs.length ∧ k < 8)) with rfl | ⟨rfl, h8⟩
        · rfl
        · rw [List.take_of_length_le (Nat.le_refl _), List.take_of_length_le (by omega)])
      have HOK : Hid ((ownL xs).length = k ∧ (ownL xs).length ≤ 8 ∧ ∀ p ∈ ownL xs, 0 ≤ p.1 ∧ p.1 < 4 ∧ p.2.length ≤ 6) := Lib.hid ⟨by rw [← HOW.out]; simp; omega, ownL_ok xs⟩
      rw [HOW.out] at hacc
      have hro := hacc.row
      have hxr := hacc.ext
      have hend : ¬ ((k : Int) < (xs.length : Int)) ∨ ¬ ((k : Int) < 8) := by omega
      generalize ownL xs = own at *
      clear hacc HOW HXS hlt
      have hb0 := hb
      have hc0 := hc
      clear hb hc
      by_cases h1 : (k : Int) < (xs.length : Int)
      · have h2 : ¬ ((k : Int) < 8) := by omega
        clear hend
        go_wp2_with fail
        refine (around kd 4 wr hk.1 hk.2 (by decide) (by decide)).mono ?_; rintro e w' ⟨rfl, rfl⟩
        generalize aroundF kd 4 = kk
        go_wp2
        go_loop [14, 15] (fun n i => ∃ j : Nat, j ≤ k ∧ i = .int .i64 j ∧ n = .int .i64 ((cntK kk (own.take j) : Nat) : Int) ∧ cntK kk (own.take j) ≤ j) (fun _ i => k - (intOf i).toNat)
        case atStart => exact ⟨0, Nat.zero_le _, rfl, rfl, by simp [cntK]⟩
        case round =>
          obtain ⟨j, hj, rfl, rfl, hcj⟩ := hrel
          by_cases hlt : j < k
          · have hlo : j < own.length := by have := HOK.out.1; omega
            obtain ⟨b, off, rfl, hc1, hc2⟩ := row_pc hro hlo
            have HS := Lib.hid (cnt_snoc kk hlo)
            generalize own[j] = x at *
            generalize cntK kk (own.take j) = nn at *
            have hg : (j : Int) < (k : Int) := by omega
            cases hb : (x.1 == kk)
            · have HB := Lib.hid hb
              go_wp2
              go_round
              case rel => exact ⟨j + 1, by omega, by go_num, by rw [HS.out, HB.out]; rfl, by rw [HS.out, HB.out]; simp; omega⟩
              case measure => simp [intOf]; omega
            · have HB := Lib.hid hb
              go_wp2
              go_round
              case rel => exact ⟨j + 1, by omega, by go_num, by rw [HS.out, HB.out]; simp, by rw [HS.out, HB.out]; simp; omega⟩
              case measure => simp [intOf]; omega
          · have e : j = k := by omega
            subst e
            have HTK : Hid (own.take j = own) := Lib.hid (List.take_of_length_le (by have := HOK.out.1; omega))
            rw [HTK.out]
            have hq : ∀ W, Ext wr W → Row W B (pcsV own) := fun W hW => hro.below hW (Nat.le_refl _)
            have HQ := Lib.hid hq
            have HXR := Lib.hid hxr
            clear hq hro hxr hcj
            go_wp2_with fail
            refine (few_l sa 6 wr ha (by decide)).mono ?_; rintro e w' ⟨rfl, rfl⟩
            go_wp2_with fail
            refine (few_l sb 6 wr hb0 (by decide)).mono ?_; rintro e w' ⟨rfl, rfl⟩
            go_wp2_with fail
            refine (few_l sc 6 wr hc0 (by decide)).mono ?_; rintro e w' ⟨rfl, rfl⟩
            go_wp2_with fail
            refine (of_n B d j own wr HOK.out.1 (HQ.out _ (Ext.refl _)) (by have := HOK.out.2.1; omega)).mono ?_; rintro e w2 ⟨B1, d1, rfl, hr1, hx2⟩
            go_wp2_with fail
            refine (resolve_n B1 d1 j _ _ _ own w2 HOK.out.1 hr1 (by have := HOK.out.2.1; omega) (take6 sa) (take6 sb) (take6 sc) (fun p hp => by have := (HOK.out.2.2 p hp).2.2; omega)).mono ?_; rintro e w3 ⟨rfl, hx3⟩
            have hE3 := hx2.trans hx3
            go_wp2_with fail
            refine (resolve_refn B d j _ _ _ own w3 HOK.out.1 (HQ.out _ hE3) (by have := HOK.out.2.1; omega) (take6 sa) (take6 sb) (take6 sc) HOK.out.2.2).mono ?_; rintro e w4 ⟨rfl, hx4⟩
            have hE4 := hE3.trans hx4
            generalize resF (sa.take 6) (sb.take 6) (sc.take 6) own = rs at *
            go_wp2_with fail
            refine (of_n B d j own w4 HOK.out.1 (HQ.out _ hE4) (by have := HOK.out.2.1; omega)).mono ?_; rintro e w5 ⟨B2, d2, rfl, hr2, hx5⟩
            go_wp2_with fail
            refine (count_k B2 d2 j own kk w5 HOK.out.1 hr2 (by have := HOK.out.2.1; omega)).mono ?_; rintro e w6 ⟨rfl, hx6⟩
            have hE6 : Ext w w6 := Ext.trans (show Ext w wr from HXR.out) ((hE4.trans hx5).trans hx6)
            have h06 : 0 < w6.heap.size := by have := hE6.size; omega
            have HM6 : ∃ m, w6.cell? ⟨0, 0, none⟩ = some (.int .i64 m) := by
              obtain ⟨m, hm⟩ := HM
              exact ⟨m, Ext.cell_ hE6 hm⟩
            have HE6 := Lib.hid hE6
            clear hE6
            go_wp2_with fail
            refine (lives_ w6 h06 HM6).mono ?_; rintro e w7 ⟨rfl, hx7⟩
            go_wp2
            go_ret
            exact ⟨rfl, Ext.trans HE6.out hx7⟩
      · clear hend
        go_wp2_with fail
        refine (around kd 4 wr hk.1 hk.2 (by decide) (by decide)).mono ?_; rintro e w' ⟨rfl, rfl⟩
        generalize aroundF kd 4 = kk
        go_wp2
        go_loop [14, 15] (fun n i => ∃ j : Nat, j ≤ k ∧ i = .int .i64 j ∧ n = .int .i64 ((cntK kk (own.take j) : Nat) : Int) ∧ cntK kk (own.take j) ≤ j) (fun _ i => k - (intOf i).toNat)
        case atStart => exact ⟨0, Nat.zero_le _, rfl, rfl, by simp [cntK]⟩
        case round =>
          obtain ⟨j, hj, rfl, rfl, hcj⟩ := hrel
          by_cases hlt : j < k
          · have hlo : j < own.length := by have := HOK.out.1; omega
            obtain ⟨b, off, rfl, hc1, hc2⟩ := row_pc hro hlo
            have HS := Lib.hid (cnt_snoc kk hlo)
            generalize own[j] = x at *
            generalize cntK kk (own.take j) = nn at *
            have hg : (j : Int) < (k : Int) := by omega
            cases hb : (x.1 == kk)
            · have HB := Lib.hid hb
              go_wp2
              go_round
              case rel => exact ⟨j + 1, by omega, by go_num, by rw [HS.out, HB.out]; rfl, by rw [HS.out, HB.out]; simp; omega⟩
              case measure => simp [intOf]; omega
            · have HB := Lib.hid hb
              go_wp2
              go_round
              case rel => exact ⟨j + 1, by omega, by go_num, by rw [HS.out, HB.out]; simp, by rw [HS.out, HB.out]; simp; omega⟩
              case measure => simp [intOf]; omega
          · have e : j = k := by omega
            subst e
            have HTK : Hid (own.take j = own) := Lib.hid (List.take_of_length_le (by have := HOK.out.1; omega))
            rw [HTK.out]
            have hq : ∀ W, Ext wr W → Row W B (pcsV own) := fun W hW => hro.below hW (Nat.le_refl _)
            have HQ := Lib.hid hq
            have HXR := Lib.hid hxr
            clear hq hro hxr hcj
            go_wp2_with fail
            refine (few_l sa 6 wr ha (by decide)).mono ?_; rintro e w' ⟨rfl, rfl⟩
            go_wp2_with fail
            refine (few_l sb 6 wr hb0 (by decide)).mono ?_; rintro e w' ⟨rfl, rfl⟩
            go_wp2_with fail
            refine (few_l sc 6 wr hc0 (by decide)).mono ?_; rintro e w' ⟨rfl, rfl⟩
            go_wp2_with fail
            refine (of_n B d j own wr HOK.out.1 (HQ.out _ (Ext.refl _)) (by have := HOK.out.2.1; omega)).mono ?_; rintro e w2 ⟨B1, d1, rfl, hr1, hx2⟩
            go_wp2_with fail
            refine (resolve_n B1 d1 j _ _ _ own w2 HOK.out.1 hr1 (by have := HOK.out.2.1; omega) (take6 sa) (take6 sb) (take6 sc) (fun p hp => by have := (HOK.out.2.2 p hp).2.2; omega)).mono ?_; rintro e w3 ⟨rfl, hx3⟩
            have hE3 := hx2.trans hx3
            go_wp2_with fail
            refine (resolve_refn B d j _ _ _ own w3 HOK.out.1 (HQ.out _ hE3) (by have := HOK.out.2.1; omega) (take6 sa) (take6 sb) (take6 sc) HOK.out.2.2).mono ?_; rintro e w4 ⟨rfl, hx4⟩
            have hE4 := hE3.trans hx4
            generalize resF (sa.take 6) (sb.take 6) (sc.take 6) own = rs at *
            go_wp2_with fail
            refine (of_n B d j own w4 HOK.out.1 (HQ.out _ hE4) (by have := HOK.out.2.1; omega)).mono ?_; rintro e w5 ⟨B2, d2, rfl, hr2, hx5⟩
            go_wp2_with fail
            refine (count_k B2 d2 j own kk w5 HOK.out.1 hr2 (by have := HOK.out.2.1; omega)).mono ?_; rintro e w6 ⟨rfl, hx6⟩
            have hE6 : Ext w w6 := Ext.trans (show Ext w wr from HXR.out) ((hE4.trans hx5).trans hx6)
            have h06 : 0 < w6.heap.size := by have := hE6.size; omega
            have HM6 : ∃ m, w6.cell? ⟨0, 0, none⟩ = some (.int .i64 m) := by
              obtain ⟨m, hm⟩ := HM
              exact ⟨m, Ext.cell_ hE6 hm⟩
            have HE6 := Lib.hid hE6
            clear hE6
            go_wp2_with fail
            refine (lives_ w6 h06 HM6).mono ?_; rintro e w7 ⟨rfl, hx7⟩
            go_wp2
            go_ret
            exact ⟨rfl, Ext.trans HE6.out hx7⟩
end Go.Proofs.YtbnlbkmihemicaaDoor.Pat
