/- The law LocaleTold: what a locale tells of its digits, its groups, how many digits there are at least, is the document's. (Printed by wip/gen/law11.py.) -/
import Derived.Test.YtdkjkbbibdppoaaGreatDoorLSym
import Derived.Test.YtdkjkbbibdppoaaGreatDoorLGoodW
import Derived.Test.YtdkjkbbibdppoaaGreatDoorJLocC
import Derived.Deep.RegionHeld3
namespace Go.Proofs.YtdkjkbbibdppoaaGreatDoor.Loc
open Go.RowKit Utf All Small Strs Build EncC Pat Cls Dec Go.Proofs.YtdkjkbbibdppoaaGreatDoor.Sys
set_option linter.unusedVariables false
set_option linter.unusedSimpArgs false

set_option maxHeartbeats 16000000 in
set_option maxRecDepth 1000000 in
theorem law_LocaleTold (v0 v1 v2 v3 v4 v5 : Int) (d0 : Int) (hd : i64 d0) (w : World) (h0 : i64 v0) (h1 : i64 v1) (h2 : i64 v2) (h3 : i64 v3) (h4 : i64 v4) (h5 : i64 v5) (hT : Tabs w) :
    Calls Tryz.prog 8 #[.agg #[.int .i64 v0, .int .i64 v1, .int .i64 v2, .int .i64 v3, .int .i64 v4, .int .i64 v5], .int .i64 d0] w fun e w' => e = .returned (.bool true) ∧ Below w.heap.size w w' := by
  obtain ⟨r, p, hB, hG⟩ : ∃ r p, Both r p ∧ ∀ W, Calls Tryz.prog 17 #[.agg #[.int .i64 v0, .int .i64 v1, .int .i64 v2, .int .i64 v3, .int .i64 v4, .int .i64 v5]] W fun e w' => e = .returned (.agg (recV r).toArray) ∧ Ext W w' :=
    ⟨_, _, both_good v0 v1 v2 v3 v4 v5, fun W => good_ v0 v1 v2 v3 v4 v5 W h0 h1 h2 h3 h4 h5⟩
  have HB := Lib.hid hB
  have HGD := Lib.hid hG
  have HTW := Lib.hid hT
  have hb1 := Box.new w 43 [.int .i64 v0, .int .i64 v1, .int .i64 v2, .int .i64 v3, .int .i64 v4, .int .i64 v5]
  have hx1 : Ext w (w.alloc (.cells ([.int .i64 v0, .int .i64 v1, .int .i64 v2, .int .i64 v3, .int .i64 v4, .int .i64 v5] : List Value).toArray 43)) := Ext.alloc_ (Ext.refl w) _
  clear hB hG hT h0 h1 h2 h3 h4 h5
  go_enter Tryz.func8, Tryz.ntmps8
  go_upto_region 1 with fail
  change Code.wp _ _ _ _ (w.alloc (.cells ([.int .i64 v0, .int .i64 v1, .int .i64 v2, .int .i64 v3, .int .i64 v4, .int .i64 v5] : List Value).toArray 43))
  generalize w.alloc (.cells ([.int .i64 v0, .int .i64 v1, .int .i64 v2, .int .i64 v3, .int .i64 v4, .int .i64 v5] : List Value).toArray 43) = w1 at *
  have HRG := Lib.hid hb1.range
  go_upto_region 2 with (first
    | (refine wpList_load_mid rfl 43 (.tmp 2) rfl w.heap.size 0 rfl [.int .i64 v0, .int .i64 v1, .int .i64 v2, .int .i64 v3, .int .i64 v4, .int .i64 v5] _ HRG.out Tryz.underlying43 rfl infoG ?_)
    | (go_at_call 17; refine (HGD.out w1).mono ?_; rintro e w2 ⟨rfl, hx2⟩)
    | (refine wpList_store_fresh rfl 45 (.tmp 5) (.tmp 17) rfl (recV r).toArray 45 _ rfl rfl infoR rfl (recs_one r) ?_))
  have hb3 := Box.new w2 45 (recV r)
  have hx3 : Ext w (w2.alloc (.cells (recV r).toArray 45)) := Ext.alloc_ (hx1.trans hx2) _
  generalize w2.alloc (.cells (recV r).toArray 45) = w3 at *
  generalize w2.heap.size = rb at *
  have hr3 : w3.rangeAt rb 0 [.string ⟨r.name.toArray⟩, .string ⟨r.pattern.toArray⟩, .string ⟨r.system.toArray⟩, .string ⟨r.decimal.toArray⟩, .string ⟨r.group.toArray⟩, .string ⟨r.minus.toArray⟩, .string ⟨r.percent.toArray⟩, .string ⟨r.currency.toArray⟩] := hb3.range
  have HR3 := Lib.hid hb3
  have HRR := Lib.hid hr3
  have HX3 := Lib.hid hx3
  have HOF := Lib.hid (of_ r w3)
  have HNW : Hid (∀ W, Ext w3 W → Calls Tryz.prog 18 #[.agg (recV r).toArray] W fun e w' => ∃ g A B C D c d a b, e = .returned (.tuple #[.pointer (some ⟨g, 0, none⟩), .nilIface]) ∧ LocR w' g A B C D c d a b (locOf r p) ∧ Ext W w') := Lib.hid fun W hW =>
    new_ r p W HB.out.pat (by have := HB.out.plen; omega) HB.out.nm HB.out.may (HTW.out.ext (HX3.out.trans hW))
  clear hb1 HRG hx1 hx2 hb3 hx3 hr3 HGD
  go_upto_region 5 with (first
    | (refine wpList_load_mid rfl 45 (.tmp 5) rfl rb 0 rfl _ _ HRR.out Tryz.underlying45 rfl infoR ?_)
    | (go_at_call 19; refine HOF.out.mono ?_; rintro e w4 ⟨rfl, hx4⟩)
    | (go_at_call 18; refine (HNW.out _ hx4).mono ?_; rintro e w5 ⟨g, A, B, C, D, c, d, a, b, rfl, hL, hx5⟩))
  have HL := Lib.hid hL
  have HX5 := Lib.hid (hx4.trans hx5)
  have HLIV : Hid (∀ W, Ext w3 W → Calls Tryz.prog 23 #[] W fun e w' => e = .returned (.bool true) ∧ Ext W w') := Lib.hid fun W hW => lives11 W (HTW.out.ext (HX3.out.trans hW))
  clear hL hx4 hx5 HNW HOF
  have hkb := aroundF_bd d0 10 (by omega)
  obtain ⟨k, hk⟩ : ∃ k : Nat, aroundF d0 10 = (k : Int) := ⟨_, (Int.toNat_of_nonneg hkb.1).symm⟩
  have hk10 : k < 10 := by omega
  have HAK : Hid (∀ W, Calls Tryz.prog 24 #[.int .i64 d0, .int .i64 10] W fun e w' => e = .returned (.int .i64 (k : Int)) ∧ W = w') := Lib.hid fun W => by
    have h := around d0 10 W hd.1 hd.2 (by omega) (by omega)
    rwa [hk] at h
  have hten : (locOf r p).d.length = 10 := digs_len r
  have HREC : Hid (∀ W, Ext w5 W → Calls Tryz.prog 40 #[.pointer (some ⟨g, 0, none⟩)] W fun e w' => e = .returned (.agg ([.string ⟨r.name.toArray⟩, .string ⟨r.pattern.toArray⟩, .string ⟨r.system.toArray⟩, .string ⟨r.decimal.toArray⟩, .string ⟨r.group.toArray⟩, .string ⟨r.minus.toArray⟩, .string ⟨r.percent.toArray⟩, .string ⟨r.currency.toArray⟩] : List Value).toArray) ∧ Ext W w') := Lib.hid fun W hW => record_l g A B C D c d a b (locOf r p) W (HL.out.ext hW)
  have HSZ : Hid (∀ W, Ext w5 W → Calls Tryz.prog 38 #[.pointer (some ⟨g, 0, none⟩)] W fun e w' => e = .returned (.tuple #[.int .i64 p.num.prim, .int .i64 p.num.sec]) ∧ Ext W w') := Lib.hid fun W hW => sizes_l g A B C D c d a b (locOf r p) W (HL.out.ext hW)
  have HLE : Hid (∀ W, Ext w5 W → Calls Tryz.prog 39 #[.pointer (some ⟨g, 0, none⟩)] W fun e w' => e = .returned (.tuple #[.int .i64 p.num.minInt, .int .i64 p.num.minFrac, .int .i64 p.num.maxFrac]) ∧ Ext W w') := Lib.hid fun W hW => least_l g A B C D c d a b (locOf r p) W (HL.out.ext hW)
  have HD1 : Hid (∀ W, Ext w5 W → Calls Tryz.prog 37 #[.pointer (some ⟨g, 0, none⟩), .int .i64 (k : Int)] W fun e w' => e = .returned (.string ⟨(encB (zeroZ ⟨r.system.toArray⟩ + (k : Int))).toArray⟩) ∧ Ext W w') := Lib.hid fun W hW => by
    have h := digit_l g A B C D c d a b (k : Int) (locOf r p) W (HL.out.ext hW) hten
    rwa [dig_k HB.out hk10] at h
  have HD2 : Hid (∀ W, Calls Tryz.prog 32 #[.string ⟨r.system.toArray⟩, .int .i64 (k : Int)] W fun e w' => e = .returned (.string ⟨(encB (zeroZ ⟨r.system.toArray⟩ + (k : Int))).toArray⟩) ∧ Ext W w') := Lib.hid fun W => ref_digit _ _ W (by omega) (by omega)
  have HD3 : Hid (∀ W, Ext w5 W → Calls Tryz.prog 37 #[.pointer (some ⟨g, 0, none⟩), .int .i64 d0] W fun e w' => e = .returned (.string ⟨(digZ (locOf r p) d0).toArray⟩) ∧ Ext W w') := Lib.hid fun W hW => digit_l g A B C D c d a b d0 (locOf r p) W (HL.out.ext hW) hten
  have HOF2 : Hid (∀ W, Calls Tryz.prog 19 #[.agg ([.string ⟨r.name.toArray⟩, .string ⟨r.pattern.toArray⟩, .string ⟨r.system.toArray⟩, .string ⟨r.decimal.toArray⟩, .string ⟨r.group.toArray⟩, .string ⟨r.minus.toArray⟩, .string ⟨r.percent.toArray⟩, .string ⟨r.currency.toArray⟩] : List Value).toArray] W fun e w' => e = .returned (.agg ([.string ⟨r.name.toArray⟩, .string ⟨r.pattern.toArray⟩, .string ⟨r.system.toArray⟩, .string ⟨r.decimal.toArray⟩, .string ⟨r.group.toArray⟩, .string ⟨r.minus.toArray⟩, .string ⟨r.percent.toArray⟩, .string ⟨r.currency.toArray⟩] : List Value).toArray) ∧ Ext W w') := Lib.hid (fun W => of_ r W)
  have HRN := Lib.hid (fun W => ref_new r p W HB.out)
  have HDN : Hid (0 ≤ d0 → d0 ≤ 9 → digZ (locOf r p) d0 ≠ []) := Lib.hid fun h1 h2 => by
    obtain ⟨n, rfl⟩ := Int.eq_ofNat_of_zero_le h1
    exact dig_ne HB.out (by omega)
  have HDO : Hid (¬ (0 ≤ d0 ∧ d0 ≤ 9) → digZ (locOf r p) d0 = []) := Lib.hid fun h => by unfold digZ; rw [if_neg (by omega)]
  have HR5 := Lib.hid (HR3.out.ext HX5.out)
  have HRR5 := Lib.hid (Ext.range_ HX5.out HRR.out)
  have heq := eq_rec r
  have hgd : ∀ (o1 o2 : Operand) (w : World), (eqGuard .eql 52 o1 o2 (.agg ([.string ⟨r.name.toArray⟩, .string ⟨r.pattern.toArray⟩, .string ⟨r.system.toArray⟩, .string ⟨r.decimal.toArray⟩, .string ⟨r.group.toArray⟩, .string ⟨r.minus.toArray⟩, .string ⟨r.percent.toArray⟩, .string ⟨r.currency.toArray⟩] : List Value).toArray) (.agg ([.string ⟨r.name.toArray⟩, .string ⟨r.pattern.toArray⟩, .string ⟨r.system.toArray⟩, .string ⟨r.decimal.toArray⟩, .string ⟨r.group.toArray⟩, .string ⟨r.minus.toArray⟩, .string ⟨r.percent.toArray⟩, .string ⟨r.currency.toArray⟩] : List Value).toArray)).run Tryz.prog w = .ok () w := fun _ _ w => run_eqGuard_agg w .eql 52 _ _ _ _ rGuard
  clear hkb hten
  generalize digZ (locOf r p) d0 = u at *
  generalize encB (zeroZ ⟨r.system.toArray⟩ + (k : Int)) = v at *
  go_upto_region 6 with (first
    | (refine wpList_load_mid rfl 45 (.tmp 5) rfl rb 0 rfl _ _ HRR5.out Tryz.underlying45 rfl infoR ?_)
    | (go_at_call 22; refine (HRN.out _).mono ?_; rintro e w7 ⟨A', B', C', D', c', d', a', b', rfl, hpt7, hcap7, hx7⟩)
    | (refine wpList_store_fresh rfl 61 (.tmp 8) (.tmp 31) rfl (refLV A' B' C' D' c' d' a' b' r p).toArray 61 _ rfl rfl infoRL rfl (refL_one A' B' C' D' c' d' a' b' r p) ?_))
  have hb8 := Box.new w7 61 (refLV A' B' C' D' c' d' a' b' r p)
  have hx8 : Ext w5 (w7.alloc (.cells (refLV A' B' C' D' c' d' a' b' r p).toArray 61)) := Ext.alloc_ hx7 _
  generalize w7.alloc (.cells (refLV A' B' C' D' c' d' a' b' r p).toArray 61) = w8 at *
  generalize w7.heap.size = lb at *
  have c12 := hb8.cell (j := 12) (v := .int .i64 p.num.prim) rfl
  have c13 := hb8.cell (j := 13) (v := .int .i64 p.num.sec) rfl
  have c14 := hb8.cell (j := 14) (v := .int .i64 p.num.minInt) rfl
  have c15 := hb8.cell (j := 15) (v := .int .i64 p.num.minFrac) rfl
  have c16 := hb8.cell (j := 16) (v := .int .i64 p.num.maxFrac) rfl
  have HRG8 := Lib.hid (Ext.range_ hx8 HRR5.out)
  have q2 := (HR5.out.ext hx8).cell (j := 2) (v := .string ⟨r.system.toArray⟩) rfl
  have HX8 := Lib.hid hx8
  clear hb8 hx8 hx7 hpt7 hcap7 HRN
  generalize p.num.prim = n1 at *
  generalize p.num.sec = n2 at *
  generalize p.num.minInt = n3 at *
  generalize p.num.minFrac = n4 at *
  generalize p.num.maxFrac = n5 at *
  rcases (by omega : d0 < 0 ∨ 9 < d0 ∨ (0 ≤ d0 ∧ d0 ≤ 9)) with hlo | hhi | ⟨hlo, hhi⟩
  · have hu := HDO.out (by omega)
    subst hu
    have j1 : ¬ (d0 ≥ 0) := by omega
    go_upto_region 10 with (first
      | (go_at_call 24; with_reducible refine (HAK.out _).mono ?_; rintro e w9 ⟨rfl, rfl⟩)
      | (go_at_call 38; with_reducible refine (HSZ.out _ HX8.out).mono ?_; rintro e w9 ⟨rfl, hx9⟩)
      | (go_at_call 39; with_reducible refine (HLE.out _ (HX8.out.trans hx9)).mono ?_; rintro e w10 ⟨rfl, hx10⟩))
    have hx910 := hx9.trans hx10
    have HX10 := Lib.hid (HX8.out.trans hx910)
    have i12 := Ext.cell_ hx910 c12
    have i13 := Ext.cell_ hx910 c13
    have i14 := Ext.cell_ hx910 c14
    have i15 := Ext.cell_ hx910 c15
    have i16 := Ext.cell_ hx910 c16
    have i2 := Ext.cell_ hx910 q2
    have hr10 := Ext.range_ hx910 HRG8.out
    clear hx9 hx10 hx910 c12 c13 c14 c15 c16 q2
    refine wp_region_noPanic ?_
    refine wp_region_held_drew (S := fun W => Ext w10 W ∧ W.rangeAt rb 0 [.string ⟨r.name.toArray⟩, .string ⟨r.pattern.toArray⟩, .string ⟨r.system.toArray⟩, .string ⟨r.decimal.toArray⟩, .string ⟨r.group.toArray⟩, .string ⟨r.minus.toArray⟩, .string ⟨r.percent.toArray⟩, .string ⟨r.currency.toArray⟩] ∧ W.cell? ⟨rb, 2, none⟩ = some (.string ⟨r.system.toArray⟩) ∧ W.cell? ⟨lb, 12, none⟩ = some (.int .i64 n1) ∧ W.cell? ⟨lb, 13, none⟩ = some (.int .i64 n2) ∧ W.cell? ⟨lb, 14, none⟩ = some (.int .i64 n3) ∧ W.cell? ⟨lb, 15, none⟩ = some (.int .i64 n4) ∧ W.cell? ⟨lb, 16, none⟩ = some (.int .i64 n5)) (by kernel_rfl) ?_ (fun hHeld => ?_)
    · exact ⟨Ext.drew_ (Ext.refl _), hr10, i2, i12, i13, i14, i15, i16⟩
    refine take_ 0 (v := ?_) rfl (by kernel_rfl) (by kernel_rfl) (by kernel_rfl) (fun _ _ _ h => h) hHeld (by rfl) ?_ ?_
    rotate_left 1
    · (intro w hSw; (try dsimp only at hSw); go_simp; all_goals with_reducible rfl)
    try simp only [Act.put, List.setIfInBounds_toArray, List.set_cons_zero, List.set_cons_succ]
    refine takeRow_ (cs := [.string ⟨r.name.toArray⟩, .string ⟨r.pattern.toArray⟩, .string ⟨r.system.toArray⟩, .string ⟨r.decimal.toArray⟩, .string ⟨r.group.toArray⟩, .string ⟨r.minus.toArray⟩, .string ⟨r.percent.toArray⟩, .string ⟨r.currency.toArray⟩]) 2 rfl (by kernel_rfl) (by kernel_rfl) (by kernel_rfl) (fun _ _ _ h => h) hHeld (by rfl) 45 ((.tmp 5)) rfl rb (0) rfl _ (fun _ h => h.2.1) Tryz.underlying45 rfl infoR ?_
    try simp only [Act.put, List.setIfInBounds_toArray, List.set_cons_zero, List.set_cons_succ]
    refine only_ 1 rfl (by kernel_rfl) (fun K1 hK1 => ?_)
    go_simp
    go_at_call 40
    refine (HREC.out _ (HX10.out.trans hHeld.1)).mono ?_
    rintro e w11 ⟨rfl, hx11⟩
    refine hK1.out _ _ (⟨hHeld.1.trans hx11, Ext.range_ hx11 hHeld.2.1, Ext.cell_ hx11 hHeld.2.2.1, Ext.cell_ hx11 hHeld.2.2.2.1, Ext.cell_ hx11 hHeld.2.2.2.2.1, Ext.cell_ hx11 hHeld.2.2.2.2.2.1, Ext.cell_ hx11 hHeld.2.2.2.2.2.2.1, Ext.cell_ hx11 hHeld.2.2.2.2.2.2.2⟩) (fun hHeld => ?_)
    clear hK1
    try simp only [Act.put, List.setIfInBounds_toArray, List.set_cons_zero, List.set_cons_succ]
    refine only_ 3 rfl (by kernel_rfl) (fun K1 hK1 => ?_)
    go_simp
    go_at_call 19
    refine (HOF2.out _).mono ?_
    rintro e w11 ⟨rfl, hx11⟩
    refine hK1.out _ _ (⟨hHeld.1.trans hx11, Ext.range_ hx11 hHeld.2.1, Ext.cell_ hx11 hHeld.2.2.1, Ext.cell_ hx11 hHeld.2.2.2.1, Ext.cell_ hx11 hHeld.2.2.2.2.1, Ext.cell_ hx11 hHeld.2.2.2.2.2.1, Ext.cell_ hx11 hHeld.2.2.2.2.2.2.1, Ext.cell_ hx11 hHeld.2.2.2.2.2.2.2⟩) (fun hHeld => ?_)
    clear hK1
    try simp only [Act.put, List.setIfInBounds_toArray, List.set_cons_zero, List.set_cons_succ]
    refine take_ 4 (v := ?_) rfl (by kernel_rfl) (by kernel_rfl) (by kernel_rfl) (fun _ _ _ h => h) hHeld (by rfl) ?_ ?_
    rotate_left 1
    · (intro w hSw; (try dsimp only at hSw); go_simp; all_goals with_reducible rfl)
    try simp only [Act.put, List.setIfInBounds_toArray, List.set_cons_zero, List.set_cons_succ]
    refine take_ 5 (v := ?_) rfl (by kernel_rfl) (by kernel_rfl) (by kernel_rfl) (fun _ _ _ h => h) hHeld (by rfl) ?_ ?_
    rotate_left 1
    · (intro w hSw; (try dsimp only at hSw); go_simp; all_goals with_reducible rfl)
    try simp only [Act.put, List.setIfInBounds_toArray, List.set_cons_zero, List.set_cons_succ]
    refine take_ 6 (v := ?_) rfl (by kernel_rfl) (by kernel_rfl) (by kernel_rfl) (fun _ _ _ h => h) hHeld (by rfl) ?_ ?_
    rotate_left 1
    · (intro w hSw; (try dsimp only at hSw); go_simp; all_goals with_reducible rfl)
    try simp only [Act.put, List.setIfInBounds_toArray, List.set_cons_zero, List.set_cons_succ]
    refine take_ 7 (v := ?_) rfl (by kernel_rfl) (by kernel_rfl) (by kernel_rfl) (fun _ _ _ h => h) hHeld (by rfl) ?_ ?_
    rotate_left 1
    · (intro w hSw; (try dsimp only at hSw); go_simp; all_goals with_reducible rfl)
    try simp only [Act.put, List.setIfInBounds_toArray, List.set_cons_zero, List.set_cons_succ]
    refine take_ 9 (v := ?_) rfl (by kernel_rfl) (by kernel_rfl) (by kernel_rfl) (fun _ _ _ h => h) hHeld (by rfl) ?_ ?_
    rotate_left 1
    · (intro w hSw; (try dsimp only at hSw); go_simp; all_goals with_reducible rfl)
    try simp only [Act.put, List.setIfInBounds_toArray, List.set_cons_zero, List.set_cons_succ]
    refine take_ 10 (v := ?_) rfl (by kernel_rfl) (by kernel_rfl) (by kernel_rfl) (fun _ _ _ h => h) hHeld (by rfl) ?_ ?_
    rotate_left 1
    · (intro w hSw; (try dsimp only at hSw); go_simp; all_goals with_reducible rfl)
    try simp only [Act.put, List.setIfInBounds_toArray, List.set_cons_zero, List.set_cons_succ]
    refine take_ 11 (v := ?_) rfl (by kernel_rfl) (by kernel_rfl) (by kernel_rfl) (fun _ _ _ h => h) hHeld (by rfl) ?_ ?_
    rotate_left 1
    · (intro w hSw; (try dsimp only at hSw); go_simp; all_goals with_reducible rfl)
    try simp only [Act.put, List.setIfInBounds_toArray, List.set_cons_zero, List.set_cons_succ]
    refine only_ 8 rfl (by kernel_rfl) (fun K1 hK1 => ?_)
    go_simp
    go_at_call 37
    refine (HD1.out _ (HX10.out.trans hHeld.1)).mono ?_
    rintro e w11 ⟨rfl, hx11⟩
    refine hK1.out _ _ (⟨hHeld.1.trans hx11, Ext.range_ hx11 hHeld.2.1, Ext.cell_ hx11 hHeld.2.2.1, Ext.cell_ hx11 hHeld.2.2.2.1, Ext.cell_ hx11 hHeld.2.2.2.2.1, Ext.cell_ hx11 hHeld.2.2.2.2.2.1, Ext.cell_ hx11 hHeld.2.2.2.2.2.2.1, Ext.cell_ hx11 hHeld.2.2.2.2.2.2.2⟩) (fun hHeld => ?_)
    clear hK1
    try simp only [Act.put, List.setIfInBounds_toArray, List.set_cons_zero, List.set_cons_succ]
    refine only_ 12 rfl (by kernel_rfl) (fun K1 hK1 => ?_)
    go_simp
    go_at_call 32
    refine (HD2.out _).mono ?_
    rintro e w11 ⟨rfl, hx11⟩
    refine hK1.out _ _ (⟨hHeld.1.trans hx11, Ext.range_ hx11 hHeld.2.1, Ext.cell_ hx11 hHeld.2.2.1, Ext.cell_ hx11 hHeld.2.2.2.1, Ext.cell_ hx11 hHeld.2.2.2.2.1, Ext.cell_ hx11 hHeld.2.2.2.2.2.1, Ext.cell_ hx11 hHeld.2.2.2.2.2.2.1, Ext.cell_ hx11 hHeld.2.2.2.2.2.2.2⟩) (fun hHeld => ?_)
    clear hK1
    try simp only [Act.put, List.setIfInBounds_toArray, List.set_cons_zero, List.set_cons_succ]
    refine take_ 13 (v := ?_) rfl (by kernel_rfl) (by kernel_rfl) (by kernel_rfl) (fun _ _ _ h => h) hHeld (by rfl) ?_ ?_
    rotate_left 1
    · (intro w hSw; (try dsimp only at hSw); go_simp; all_goals with_reducible rfl)
    try simp only [Act.put, List.setIfInBounds_toArray, List.set_cons_zero, List.set_cons_succ]
    refine take_ 14 (v := ?_) rfl (by kernel_rfl) (by kernel_rfl) (by kernel_rfl) (fun _ _ _ h => h) hHeld (by rfl) ?_ ?_
    rotate_left 1
    · (intro w hSw; (try dsimp only at hSw); go_simp; all_goals with_reducible rfl)
    try simp only [Act.put, List.setIfInBounds_toArray, List.set_cons_zero, List.set_cons_succ]
    refine take_ 15 (v := ?_) rfl (by kernel_rfl) (by kernel_rfl) (by kernel_rfl) (fun _ _ _ h => h) hHeld (by rfl) ?_ ?_
    rotate_left 1
    · (intro w hSw; (try dsimp only at hSw); go_simp; all_goals with_reducible rfl)
    try simp only [Act.put, List.setIfInBounds_toArray, List.set_cons_zero, List.set_cons_succ]
    refine take_ 16 (v := ?_) rfl (by kernel_rfl) (by kernel_rfl) (by kernel_rfl) (fun _ _ _ h => h) hHeld (by rfl) ?_ ?_
    rotate_left 1
    · (intro w hSw; (try dsimp only at hSw); go_simp; all_goals with_reducible rfl)
    try simp only [Act.put, List.setIfInBounds_toArray, List.set_cons_zero, List.set_cons_succ]
    refine take_ 17 (v := ?_) rfl (by kernel_rfl) (by kernel_rfl) (by kernel_rfl) (fun _ _ _ h => h) hHeld (by rfl) ?_ ?_
    rotate_left 1
    · (intro w hSw; (try dsimp only at hSw); go_simp; all_goals with_reducible rfl)
    try simp only [Act.put, List.setIfInBounds_toArray, List.set_cons_zero, List.set_cons_succ]
    refine take_ 20 (v := ?_) rfl (by kernel_rfl) (by kernel_rfl) (by kernel_rfl) (fun _ _ _ h => h) hHeld (by rfl) ?_ ?_
    rotate_left 1
    · (intro w hSw; (try dsimp only at hSw); go_simp; all_goals with_reducible rfl)
    try simp only [Act.put, List.setIfInBounds_toArray, List.set_cons_zero, List.set_cons_succ]
    refine only_ 18 rfl (by kernel_rfl) (fun K1 hK1 => ?_)
    go_simp
    go_at_call 37
    refine (HD3.out _ (HX10.out.trans hHeld.1)).mono ?_
    rintro e w11 ⟨rfl, hx11⟩
    refine hK1.out _ _ (⟨hHeld.1.trans hx11, Ext.range_ hx11 hHeld.2.1, Ext.cell_ hx11 hHeld.2.2.1, Ext.cell_ hx11 hHeld.2.2.2.1, Ext.cell_ hx11 hHeld.2.2.2.2.1, Ext.cell_ hx11 hHeld.2.2.2.2.2.1, Ext.cell_ hx11 hHeld.2.2.2.2.2.2.1, Ext.cell_ hx11 hHeld.2.2.2.2.2.2.2⟩) (fun hHeld => ?_)
    clear hK1
    try simp only [Act.put, List.setIfInBounds_toArray, List.set_cons_zero, List.set_cons_succ]
    refine take_ 19 (v := ?_) rfl (by kernel_rfl) (by kernel_rfl) (by kernel_rfl) (fun _ _ _ h => h) hHeld (by rfl) ?_ ?_
    rotate_left 1
    · (intro w hSw; (try dsimp only at hSw); go_simp; all_goals with_reducible rfl)
    try simp only [Act.put, List.setIfInBounds_toArray, List.set_cons_zero, List.set_cons_succ]
    refine take_ 21 (v := ?_) rfl (by kernel_rfl) (by kernel_rfl) (by kernel_rfl) (fun _ _ _ h => h) hHeld (by rfl) ?_ ?_
    rotate_left 1
    · (intro w hSw; (try dsimp only at hSw); go_simp; all_goals with_reducible rfl)
    try simp only [Act.put, List.setIfInBounds_toArray, List.set_cons_zero, List.set_cons_succ]
    refine take_ 22 (v := ?_) rfl (by kernel_rfl) (by kernel_rfl) (by kernel_rfl) (fun _ _ _ h => h) hHeld (by rfl) ?_ ?_
    rotate_left 1
    · (intro w hSw; (try dsimp only at hSw); go_simp; all_goals with_reducible rfl)
    try simp only [Act.put, List.setIfInBounds_toArray, List.set_cons_zero, List.set_cons_succ]
    refine take_ 23 (v := ?_) rfl (by kernel_rfl) (by kernel_rfl) (by kernel_rfl) (fun _ _ _ h => h) hHeld (by rfl) ?_ ?_
    rotate_left 1
    · (intro w hSw; (try dsimp only at hSw); go_simp; all_goals with_reducible rfl)
    try simp only [Act.put, List.setIfInBounds_toArray, List.set_cons_zero, List.set_cons_succ]
    refine take_ 24 (v := ?_) rfl (by kernel_rfl) (by kernel_rfl) (by kernel_rfl) (fun _ _ _ h => h) hHeld (by rfl) ?_ ?_
    rotate_left 1
    · (intro w hSw; (try dsimp only at hSw); go_simp; all_goals with_reducible rfl)
    try simp only [Act.put, List.setIfInBounds_toArray, List.set_cons_zero, List.set_cons_succ]
    refine take_ 25 (v := ?_) rfl (by kernel_rfl) (by kernel_rfl) (by kernel_rfl) (fun _ _ _ h => h) hHeld (by rfl) ?_ ?_
    rotate_left 1
    · (intro w hSw; (try dsimp only at hSw); go_simp; all_goals with_reducible rfl)
    try simp only [Act.put, List.setIfInBounds_toArray, List.set_cons_zero, List.set_cons_succ]
    refine take_ 26 (v := ?_) rfl (by kernel_rfl) (by kernel_rfl) (by kernel_rfl) (fun _ _ _ h => h) hHeld (by rfl) ?_ ?_
    rotate_left 1
    · (intro w hSw; (try dsimp only at hSw); go_simp; all_goals with_reducible rfl)
    try simp only [Act.put, List.setIfInBounds_toArray, List.set_cons_zero, List.set_cons_succ]
    refine take_ 27 (v := ?_) rfl (by kernel_rfl) (by kernel_rfl) (by kernel_rfl) (fun _ _ _ h => h) hHeld (by rfl) ?_ ?_
    rotate_left 1
    · (intro w hSw; (try dsimp only at hSw); go_simp; all_goals with_reducible rfl)
    try simp only [Act.put, List.setIfInBounds_toArray, List.set_cons_zero, List.set_cons_succ]
    refine take_ 28 (v := ?_) rfl (by kernel_rfl) (by kernel_rfl) (by kernel_rfl) (fun _ _ _ h => h) hHeld (by rfl) ?_ ?_
    rotate_left 1
    · (intro w hSw; (try dsimp only at hSw); go_simp; all_goals with_reducible rfl)
    try simp only [Act.put, List.setIfInBounds_toArray, List.set_cons_zero, List.set_cons_succ]
    refine take_ 29 (v := ?_) rfl (by kernel_rfl) (by kernel_rfl) (by kernel_rfl) (fun _ _ _ h => h) hHeld (by rfl) ?_ ?_
    rotate_left 1
    · (intro w hSw; (try dsimp only at hSw); go_simp; all_goals with_reducible rfl)
    try simp only [Act.put, List.setIfInBounds_toArray, List.set_cons_zero, List.set_cons_succ]
    refine take_ 30 (v := ?_) rfl (by kernel_rfl) (by kernel_rfl) (by kernel_rfl) (fun _ _ _ h => h) hHeld (by rfl) ?_ ?_
    rotate_left 1
    · (intro w hSw; (try dsimp only at hSw); go_simp; all_goals with_reducible rfl)
    try simp only [Act.put, List.setIfInBounds_toArray, List.set_cons_zero, List.set_cons_succ]
    refine take_ 31 (v := ?_) rfl (by kernel_rfl) (by kernel_rfl) (by kernel_rfl) (fun _ _ _ h => h) hHeld (by rfl) ?_ ?_
    rotate_left 1
    · (intro w hSw; (try dsimp only at hSw); go_simp; all_goals with_reducible rfl)
    try simp only [Act.put, List.setIfInBounds_toArray, List.set_cons_zero, List.set_cons_succ]
    refine take_ 32 (v := ?_) rfl (by kernel_rfl) (by kernel_rfl) (by kernel_rfl) (fun _ _ _ h => h) hHeld (by rfl) ?_ ?_
    rotate_left 1
    · (intro w hSw; (try dsimp only at hSw); go_simp; all_goals with_reducible rfl)
    try simp only [Act.put, List.setIfInBounds_toArray, List.set_cons_zero, List.set_cons_succ]
    refine take_ 33 (v := ?_) rfl (by kernel_rfl) (by kernel_rfl) (by kernel_rfl) (fun _ _ _ h => h) hHeld (by rfl) ?_ ?_
    rotate_left 1
    · (intro w hSw; (try dsimp only at hSw); go_simp; all_goals with_reducible rfl)
    try simp only [Act.put, List.setIfInBounds_toArray, List.set_cons_zero, List.set_cons_succ]
    refine take_ 34 (v := ?_) rfl (by kernel_rfl) (by kernel_rfl) (by kernel_rfl) (fun _ _ _ h => h) hHeld (by rfl) ?_ ?_
    rotate_left 1
    · (intro w hSw; (try dsimp only at hSw); go_simp; all_goals with_reducible rfl)
    try simp only [Act.put, List.setIfInBounds_toArray, List.set_cons_zero, List.set_cons_succ]
    refine take_ 35 (v := ?_) rfl (by kernel_rfl) (by kernel_rfl) (by kernel_rfl) (fun _ _ _ h => h) hHeld (by rfl) ?_ ?_
    rotate_left 1
    · (intro w hSw; (try dsimp only at hSw); go_simp; all_goals with_reducible rfl)
    try simp only [Act.put, List.setIfInBounds_toArray, List.set_cons_zero, List.set_cons_succ]
    refine take_ 36 (v := ?_) rfl (by kernel_rfl) (by kernel_rfl) (by kernel_rfl) (fun _ _ _ h => h) hHeld (by rfl) ?_ ?_
    rotate_left 1
    · (intro w hSw; (try dsimp only at hSw); go_simp; all_goals with_reducible rfl)
    try simp only [Act.put, List.setIfInBounds_toArray, List.set_cons_zero, List.set_cons_succ]
    refine take_ 37 (v := ?_) rfl (by kernel_rfl) (by kernel_rfl) (by kernel_rfl) (fun _ _ _ h => h) hHeld (by rfl) ?_ ?_
    rotate_left 1
    · (intro w hSw; (try dsimp only at hSw); go_simp; all_goals with_reducible rfl)
    try simp only [Act.put, List.setIfInBounds_toArray, List.set_cons_zero, List.set_cons_succ]
    refine take_ 38 (v := ?_) rfl (by kernel_rfl) (by kernel_rfl) (by kernel_rfl) (fun _ _ _ h => h) hHeld (by rfl) ?_ ?_
    rotate_left 1
    · (intro w hSw; (try dsimp only at hSw); go_simp; all_goals with_reducible rfl)
    try simp only [Act.put, List.setIfInBounds_toArray, List.set_cons_zero, List.set_cons_succ]
    refine take_ 39 (v := ?_) rfl (by kernel_rfl) (by kernel_rfl) (by kernel_rfl) (fun _ _ _ h => h) hHeld (by rfl) ?_ ?_
    rotate_left 1
    · (intro w hSw; (try dsimp only at hSw); go_simp; all_goals with_reducible rfl)
    try simp only [Act.put, List.setIfInBounds_toArray, List.set_cons_zero, List.set_cons_succ]
    refine take_ 40 (v := ?_) rfl (by kernel_rfl) (by kernel_rfl) (by kernel_rfl) (fun _ _ _ h => h) hHeld (by rfl) ?_ ?_
    rotate_left 1
    · (intro w hSw; (try dsimp only at hSw); go_simp; all_goals with_reducible rfl)
    try simp only [Act.put, List.setIfInBounds_toArray, List.set_cons_zero, List.set_cons_succ]
    refine take_ 41 (v := ?_) rfl (by kernel_rfl) (by kernel_rfl) (by kernel_rfl) (fun _ _ _ h => h) hHeld (by rfl) ?_ ?_
    rotate_left 1
    · (intro w hSw; (try dsimp only at hSw); go_simp; all_goals with_reducible rfl)
    try simp only [Act.put, List.setIfInBounds_toArray, List.set_cons_zero, List.set_cons_succ]
    refine take_ 42 (v := ?_) rfl (by kernel_rfl) (by kernel_rfl) (by kernel_rfl) (fun _ _ _ h => h) hHeld (by rfl) ?_ ?_
    rotate_left 1
    · (intro w hSw; (try dsimp only at hSw); go_simp; all_goals with_reducible rfl)
    try simp only [Act.put, List.setIfInBounds_toArray, List.set_cons_zero, List.set_cons_succ]
    refine take_ 43 (v := ?_) rfl (by kernel_rfl) (by kernel_rfl) (by kernel_rfl) (fun _ _ _ h => h) hHeld (by rfl) ?_ ?_
    rotate_left 1
    · (intro w hSw; (try dsimp only at hSw); go_simp; all_goals with_reducible rfl)
    try simp only [Act.put, List.setIfInBounds_toArray, List.set_cons_zero, List.set_cons_succ]
    refine take_ 44 (v := ?_) rfl (by kernel_rfl) (by kernel_rfl) (by kernel_rfl) (fun _ _ _ h => h) hHeld (by rfl) ?_ ?_
    rotate_left 1
    · (intro w hSw; (try dsimp only at hSw); go_simp; all_goals with_reducible rfl)
    try simp only [Act.put, List.setIfInBounds_toArray, List.set_cons_zero, List.set_cons_succ]
    refine take_ 45 (v := ?_) rfl (by kernel_rfl) (by kernel_rfl) (by kernel_rfl) (fun _ _ _ h => h) hHeld (by rfl) ?_ ?_
    rotate_left 1
    · (intro w hSw; (try dsimp only at hSw); go_simp; all_goals with_reducible rfl)
    try simp only [Act.put, List.setIfInBounds_toArray, List.set_cons_zero, List.set_cons_succ]
    refine take_ 46 (v := ?_) rfl (by kernel_rfl) (by kernel_rfl) (by kernel_rfl) (fun _ _ _ h => h) hHeld (by rfl) ?_ ?_
    rotate_left 1
    · (intro w hSw; (try dsimp only at hSw); go_simp; all_goals with_reducible rfl)
    try simp only [Act.put, List.setIfInBounds_toArray, List.set_cons_zero, List.set_cons_succ]
    refine take_ 47 (v := ?_) rfl (by kernel_rfl) (by kernel_rfl) (by kernel_rfl) (fun _ _ _ h => h) hHeld (by rfl) ?_ ?_
    rotate_left 1
    · (intro w hSw; (try dsimp only at hSw); go_simp; all_goals with_reducible rfl)
    try simp only [Act.put, List.setIfInBounds_toArray, List.set_cons_zero, List.set_cons_succ]
    refine take_ 48 (v := ?_) rfl (by kernel_rfl) (by kernel_rfl) (by kernel_rfl) (fun _ _ _ h => h) hHeld (by rfl) ?_ ?_
    rotate_left 1
    · (intro w hSw; (try dsimp only at hSw); go_simp; all_goals with_reducible rfl)
    try simp only [Act.put, List.setIfInBounds_toArray, List.set_cons_zero, List.set_cons_succ]
    refine take_ 49 (v := ?_) rfl (by kernel_rfl) (by kernel_rfl) (by kernel_rfl) (fun _ _ _ h => h) hHeld (by rfl) ?_ ?_
    rotate_left 1
    · (intro w hSw; (try dsimp only at hSw); go_simp; all_goals with_reducible rfl)
    try simp only [Act.put, List.setIfInBounds_toArray, List.set_cons_zero, List.set_cons_succ]
    refine take_ 50 (v := ?_) rfl (by kernel_rfl) (by kernel_rfl) (by kernel_rfl) (fun _ _ _ h => h) hHeld (by rfl) ?_ ?_
    rotate_left 1
    · (intro w hSw; (try dsimp only at hSw); go_simp; all_goals with_reducible rfl)
    try simp only [Act.put, List.setIfInBounds_toArray, List.set_cons_zero, List.set_cons_succ]
    refine take_ 51 (v := ?_) rfl (by kernel_rfl) (by kernel_rfl) (by kernel_rfl) (fun _ _ _ h => h) hHeld (by rfl) ?_ ?_
    rotate_left 1
    · (intro w hSw; (try dsimp only at hSw); go_simp; all_goals with_reducible rfl)
    try simp only [Act.put, List.setIfInBounds_toArray, List.set_cons_zero, List.set_cons_succ]
    refine take_ 52 (v := ?_) rfl (by kernel_rfl) (by kernel_rfl) (by kernel_rfl) (fun _ _ _ h => h) hHeld (by rfl) ?_ ?_
    rotate_left 1
    · (intro w hSw; (try dsimp only at hSw); go_simp; all_goals with_reducible rfl)
    try simp only [Act.put, List.setIfInBounds_toArray, List.set_cons_zero, List.set_cons_succ]
    refine take_ 53 (v := ?_) rfl (by kernel_rfl) (by kernel_rfl) (by kernel_rfl) (fun _ _ _ h => h) hHeld (by rfl) ?_ ?_
    rotate_left 1
    · (intro w hSw; (try dsimp only at hSw); go_simp; all_goals with_reducible rfl)
    try simp only [Act.put, List.setIfInBounds_toArray, List.set_cons_zero, List.set_cons_succ]
    refine take_ 54 (v := ?_) rfl (by kernel_rfl) (by kernel_rfl) (by kernel_rfl) (fun _ _ _ h => h) hHeld (by rfl) ?_ ?_
    rotate_left 1
    · (intro w hSw; (try dsimp only at hSw); go_simp; all_goals with_reducible rfl)
    try simp only [Act.put, List.setIfInBounds_toArray, List.set_cons_zero, List.set_cons_succ]
    refine take_ 55 (v := ?_) rfl (by kernel_rfl) (by kernel_rfl) (by kernel_rfl) (fun _ _ _ h => h) hHeld (by rfl) ?_ ?_
    rotate_left 1
    · (intro w hSw; (try dsimp only at hSw); go_simp; all_goals with_reducible rfl)
    try simp only [Act.put, List.setIfInBounds_toArray, List.set_cons_zero, List.set_cons_succ]
    refine take_ 56 (v := ?_) rfl (by kernel_rfl) (by kernel_rfl) (by kernel_rfl) (fun _ _ _ h => h) hHeld (by rfl) ?_ ?_
    rotate_left 1
    · (intro w hSw; (try dsimp only at hSw); go_simp; all_goals with_reducible rfl)
    try simp only [Act.put, List.setIfInBounds_toArray, List.set_cons_zero, List.set_cons_succ]
    refine take_ 57 (v := ?_) rfl (by kernel_rfl) (by kernel_rfl) (by kernel_rfl) (fun _ _ _ h => h) hHeld (by rfl) ?_ ?_
    rotate_left 1
    · (intro w hSw; (try dsimp only at hSw); go_simp; all_goals with_reducible rfl)
    try simp only [Act.put, List.setIfInBounds_toArray, List.set_cons_zero, List.set_cons_succ]
    refine take_ 58 (v := ?_) rfl (by kernel_rfl) (by kernel_rfl) (by kernel_rfl) (fun _ _ _ h => h) hHeld (by rfl) ?_ ?_
    rotate_left 1
    · (intro w hSw; (try dsimp only at hSw); go_simp; all_goals with_reducible rfl)
    try simp only [Act.put, List.setIfInBounds_toArray, List.set_cons_zero, List.set_cons_succ]
    refine only_ 59 rfl (by kernel_rfl) (fun K1 hK1 => ?_)
    go_simp
    go_at_call 23
    refine (HLIV.out _ (HX5.out.trans (HX10.out.trans hHeld.1))).mono ?_
    rintro e w11 ⟨rfl, hx11⟩
    refine hK1.out _ _ (⟨hHeld.1.trans hx11, Ext.range_ hx11 hHeld.2.1, Ext.cell_ hx11 hHeld.2.2.1, Ext.cell_ hx11 hHeld.2.2.2.1, Ext.cell_ hx11 hHeld.2.2.2.2.1, Ext.cell_ hx11 hHeld.2.2.2.2.2.1, Ext.cell_ hx11 hHeld.2.2.2.2.2.2.1, Ext.cell_ hx11 hHeld.2.2.2.2.2.2.2⟩) (fun hHeld => ?_)
    clear hK1
    try simp only [Act.put, List.setIfInBounds_toArray, List.set_cons_zero, List.set_cons_succ]
    refine take_ 60 (v := ?_) rfl (by kernel_rfl) (by kernel_rfl) (by kernel_rfl) (fun _ _ _ h => h) hHeld (by rfl) ?_ ?_
    rotate_left 1
    · (intro w hSw; (try dsimp only at hSw); go_simp; all_goals with_reducible rfl)
    try simp only [Act.put, List.setIfInBounds_toArray, List.set_cons_zero, List.set_cons_succ]
    refine take_ 61 (v := ?_) rfl (by kernel_rfl) (by kernel_rfl) (by kernel_rfl) (fun _ _ _ h => h) hHeld (by rfl) ?_ ?_
    rotate_left 1
    · (intro w hSw; (try dsimp only at hSw); go_simp; all_goals with_reducible rfl)
    try simp only [Act.put, List.setIfInBounds_toArray, List.set_cons_zero, List.set_cons_succ]
    refine wpAnyH_done (by kernel_rfl) ?_ _
    refine NoPanic.normal ?_
    go_wp2
    go_ret
    exact ⟨rfl, HX3.out.trans (HX5.out.trans (HX10.out.trans hHeld.1))⟩
  · have hu := HDO.out (by omega)
    subst hu
    have j1 : d0 ≥ 0 := by omega
    have j2 : ¬ (d0 ≤ 9) := by omega
    have hd9 : decide (d0 ≤ 9) = false := decide_eq_false j2
    go_upto_region 10 with (first
      | (go_at_call 24; with_reducible refine (HAK.out _).mono ?_; rintro e w9 ⟨rfl, rfl⟩)
      | (go_at_call 38; with_reducible refine (HSZ.out _ HX8.out).mono ?_; rintro e w9 ⟨rfl, hx9⟩)
      | (go_at_call 39; with_reducible refine (HLE.out _ (HX8.out.trans hx9)).mono ?_; rintro e w10 ⟨rfl, hx10⟩))
    have hx910 := hx9.trans hx10
    have HX10 := Lib.hid (HX8.out.trans hx910)
    have i12 := Ext.cell_ hx910 c12
    have i13 := Ext.cell_ hx910 c13
    have i14 := Ext.cell_ hx910 c14
    have i15 := Ext.cell_ hx910 c15
    have i16 := Ext.cell_ hx910 c16
    have i2 := Ext.cell_ hx910 q2
    have hr10 := Ext.range_ hx910 HRG8.out
    clear hx9 hx10 hx910 c12 c13 c14 c15 c16 q2
    refine wp_region_noPanic ?_
    refine wp_region_held_drew (S := fun W => Ext w10 W ∧ W.rangeAt rb 0 [.string ⟨r.name.toArray⟩, .string ⟨r.pattern.toArray⟩, .string ⟨r.system.toArray⟩, .string ⟨r.decimal.toArray⟩, .string ⟨r.group.toArray⟩, .string ⟨r.minus.toArray⟩, .string ⟨r.percent.toArray⟩, .string ⟨r.currency.toArray⟩] ∧ W.cell? ⟨rb, 2, none⟩ = some (.string ⟨r.system.toArray⟩) ∧ W.cell? ⟨lb, 12, none⟩ = some (.int .i64 n1) ∧ W.cell? ⟨lb, 13, none⟩ = some (.int .i64 n2) ∧ W.cell? ⟨lb, 14, none⟩ = some (.int .i64 n3) ∧ W.cell? ⟨lb, 15, none⟩ = some (.int .i64 n4) ∧ W.cell? ⟨lb, 16, none⟩ = some (.int .i64 n5)) (by kernel_rfl) ?_ (fun hHeld => ?_)
    · exact ⟨Ext.drew_ (Ext.refl _), hr10, i2, i12, i13, i14, i15, i16⟩
    refine take_ 0 (v := ?_) rfl (by kernel_rfl) (by kernel_rfl) (by kernel_rfl) (fun _ _ _ h => h) hHeld (by rfl) ?_ ?_
    rotate_left 1
    · (intro w hSw; (try dsimp only at hSw); go_simp; all_goals with_reducible rfl)
    try simp only [Act.put, List.setIfInBounds_toArray, List.set_cons_zero, List.set_cons_succ]
    refine takeRow_ (cs := [.string ⟨r.name.toArray⟩, .string ⟨r.pattern.toArray⟩, .string ⟨r.system.toArray⟩, .string ⟨r.decimal.toArray⟩, .string ⟨r.group.toArray⟩, .string ⟨r.minus.toArray⟩, .string ⟨r.percent.toArray⟩, .string ⟨r.currency.toArray⟩]) 2 rfl (by kernel_rfl) (by kernel_rfl) (by kernel_rfl) (fun _ _ _ h => h) hHeld (by rfl) 45 ((.tmp 5)) rfl rb (0) rfl _ (fun _ h => h.2.1) Tryz.underlying45 rfl infoR ?_
    try simp only [Act.put, List.setIfInBounds_toArray, List.set_cons_zero, List.set_cons_succ]
    refine only_ 1 rfl (by kernel_rfl) (fun K1 hK1 => ?_)
    go_simp
    go_at_call 40
    refine (HREC.out _ (HX10.out.trans hHeld.1)).mono ?_
    rintro e w11 ⟨rfl, hx11⟩
    refine hK1.out _ _ (⟨hHeld.1.trans hx11, Ext.range_ hx11 hHeld.2.1, Ext.cell_ hx11 hHeld.2.2.1, Ext.cell_ hx11 hHeld.2.2.2.1, Ext.cell_ hx11 hHeld.2.2.2.2.1, Ext.cell_ hx11 hHeld.2.2.2.2.2.1, Ext.cell_ hx11 hHeld.2.2.2.2.2.2.1, Ext.cell_ hx11 hHeld.2.2.2.2.2.2.2⟩) (fun hHeld => ?_)
    clear hK1
    try simp only [Act.put, List.setIfInBounds_toArray, List.set_cons_zero, List.set_cons_succ]
    refine only_ 3 rfl (by kernel_rfl) (fun K1 hK1 => ?_)
    go_simp
    go_at_call 19
    refine (HOF2.out _).mono ?_
    rintro e w11 ⟨rfl, hx11⟩
    refine hK1.out _ _ (⟨hHeld.1.trans hx11, Ext.range_ hx11 hHeld.2.1, Ext.cell_ hx11 hHeld.2.2.1, Ext.cell_ hx11 hHeld.2.2.2.1, Ext.cell_ hx11 hHeld.2.2.2.2.1, Ext.cell_ hx11 hHeld.2.2.2.2.2.1, Ext.cell_ hx11 hHeld.2.2.2.2.2.2.1, Ext.cell_ hx11 hHeld.2.2.2.2.2.2.2⟩) (fun hHeld => ?_)
    clear hK1
    try simp only [Act.put, List.setIfInBounds_toArray, List.set_cons_zero, List.set_cons_succ]
    refine take_ 4 (v := ?_) rfl (by kernel_rfl) (by kernel_rfl) (by kernel_rfl) (fun _ _ _ h => h) hHeld (by rfl) ?_ ?_
    rotate_left 1
    · (intro w hSw; (try dsimp only at hSw); go_simp; all_goals with_reducible rfl)
    try simp only [Act.put, List.setIfInBounds_toArray, List.set_cons_zero, List.set_cons_succ]
    refine take_ 5 (v := ?_) rfl (by kernel_rfl) (by kernel_rfl) (by kernel_rfl) (fun _ _ _ h => h) hHeld (by rfl) ?_ ?_
    rotate_left 1
    · (intro w hSw; (try dsimp only at hSw); go_simp; all_goals with_reducible rfl)
    try simp only [Act.put, List.setIfInBounds_toArray, List.set_cons_zero, List.set_cons_succ]
    refine take_ 6 (v := ?_) rfl (by kernel_rfl) (by kernel_rfl) (by kernel_rfl) (fun _ _ _ h => h) hHeld (by rfl) ?_ ?_
    rotate_left 1
    · (intro w hSw; (try dsimp only at hSw); go_simp; all_goals with_reducible rfl)
    try simp only [Act.put, List.setIfInBounds_toArray, List.set_cons_zero, List.set_cons_succ]
    refine take_ 7 (v := ?_) rfl (by kernel_rfl) (by kernel_rfl) (by kernel_rfl) (fun _ _ _ h => h) hHeld (by rfl) ?_ ?_
    rotate_left 1
    · (intro w hSw; (try dsimp only at hSw); go_simp; all_goals with_reducible rfl)
    try simp only [Act.put, List.setIfInBounds_toArray, List.set_cons_zero, List.set_cons_succ]
    refine take_ 9 (v := ?_) rfl (by kernel_rfl) (by kernel_rfl) (by kernel_rfl) (fun _ _ _ h => h) hHeld (by rfl) ?_ ?_
    rotate_left 1
    · (intro w hSw; (try dsimp only at hSw); go_simp; all_goals with_reducible rfl)
    try simp only [Act.put, List.setIfInBounds_toArray, List.set_cons_zero, List.set_cons_succ]
    refine take_ 10 (v := ?_) rfl (by kernel_rfl) (by kernel_rfl) (by kernel_rfl) (fun _ _ _ h => h) hHeld (by rfl) ?_ ?_
    rotate_left 1
    · (intro w hSw; (try dsimp only at hSw); go_simp; all_goals with_reducible rfl)
    try simp only [Act.put, List.setIfInBounds_toArray, List.set_cons_zero, List.set_cons_succ]
    refine take_ 11 (v := ?_) rfl (by kernel_rfl) (by kernel_rfl) (by kernel_rfl) (fun _ _ _ h => h) hHeld (by rfl) ?_ ?_
    rotate_left 1
    · (intro w hSw; (try dsimp only at hSw); go_simp; all_goals with_reducible rfl)
    try simp only [Act.put, List.setIfInBounds_toArray, List.set_cons_zero, List.set_cons_succ]
    refine only_ 8 rfl (by kernel_rfl) (fun K1 hK1 => ?_)
    go_simp
    go_at_call 37
    refine (HD1.out _ (HX10.out.trans hHeld.1)).mono ?_
    rintro e w11 ⟨rfl, hx11⟩
    refine hK1.out _ _ (⟨hHeld.1.trans hx11, Ext.range_ hx11 hHeld.2.1, Ext.cell_ hx11 hHeld.2.2.1, Ext.cell_ hx11 hHeld.2.2.2.1, Ext.cell_ hx11 hHeld.2.2.2.2.1, Ext.cell_ hx11 hHeld.2.2.2.2.2.1, Ext.cell_ hx11 hHeld.2.2.2.2.2.2.1, Ext.cell_ hx11 hHeld.2.2.2.2.2.2.2⟩) (fun hHeld => ?_)
    clear hK1
    try simp only [Act.put, List.setIfInBounds_toArray, List.set_cons_zero, List.set_cons_succ]
    refine only_ 12 rfl (by kernel_rfl) (fun K1 hK1 => ?_)
    go_simp
    go_at_call 32
    refine (HD2.out _).mono ?_
    rintro e w11 ⟨rfl, hx11⟩
    refine hK1.out _ _ (⟨hHeld.1.trans hx11, Ext.range_ hx11 hHeld.2.1, Ext.cell_ hx11 hHeld.2.2.1, Ext.cell_ hx11 hHeld.2.2.2.1, Ext.cell_ hx11 hHeld.2.2.2.2.1, Ext.cell_ hx11 hHeld.2.2.2.2.2.1, Ext.cell_ hx11 hHeld.2.2.2.2.2.2.1, Ext.cell_ hx11 hHeld.2.2.2.2.2.2.2⟩) (fun hHeld => ?_)
    clear hK1
    try simp only [Act.put, List.setIfInBounds_toArray, List.set_cons_zero, List.set_cons_succ]
    refine take_ 13 (v := ?_) rfl (by kernel_rfl) (by kernel_rfl) (by kernel_rfl) (fun _ _ _ h => h) hHeld (by rfl) ?_ ?_
    rotate_left 1
    · (intro w hSw; (try dsimp only at hSw); go_simp; all_goals with_reducible rfl)
    try simp only [Act.put, List.setIfInBounds_toArray, List.set_cons_zero, List.set_cons_succ]
    refine take_ 14 (v := ?_) rfl (by kernel_rfl) (by kernel_rfl) (by kernel_rfl) (fun _ _ _ h => h) hHeld (by rfl) ?_ ?_
    rotate_left 1
    · (intro w hSw; (try dsimp only at hSw); go_simp; all_goals with_reducible rfl)
    try simp only [Act.put, List.setIfInBounds_toArray, List.set_cons_zero, List.set_cons_succ]
    refine take_ 15 (v := ?_) rfl (by kernel_rfl) (by kernel_rfl) (by kernel_rfl) (fun _ _ _ h => h) hHeld (by rfl) ?_ ?_
    rotate_left 1
    · (intro w hSw; (try dsimp only at hSw); go_simp; all_goals with_reducible rfl)
    try simp only [Act.put, List.setIfInBounds_toArray, List.set_cons_zero, List.set_cons_succ]
    refine take_ 16 (v := ?_) rfl (by kernel_rfl) (by kernel_rfl) (by kernel_rfl) (fun _ _ _ h => h) hHeld (by rfl) ?_ ?_
    rotate_left 1
    · (intro w hSw; (try dsimp only at hSw); go_simp; all_goals with_reducible rfl)
    try simp only [Act.put, List.setIfInBounds_toArray, List.set_cons_zero, List.set_cons_succ]
    refine take_ 17 (v := ?_) rfl (by kernel_rfl) (by kernel_rfl) (by kernel_rfl) (fun _ _ _ h => h) hHeld (by rfl) ?_ ?_
    rotate_left 1
    · (intro w hSw; (try dsimp only at hSw); go_simp; all_goals with_reducible rfl)
    try simp only [Act.put, List.setIfInBounds_toArray, List.set_cons_zero, List.set_cons_succ]
    refine take_ 20 (v := ?_) rfl (by kernel_rfl) (by kernel_rfl) (by kernel_rfl) (fun _ _ _ h => h) hHeld (by rfl) ?_ ?_
    rotate_left 1
    · (intro w hSw; (try dsimp only at hSw); go_simp; all_goals with_reducible rfl)
    try simp only [Act.put, List.setIfInBounds_toArray, List.set_cons_zero, List.set_cons_succ]
    refine only_ 18 rfl (by kernel_rfl) (fun K1 hK1 => ?_)
    go_simp
    go_at_call 37
    refine (HD3.out _ (HX10.out.trans hHeld.1)).mono ?_
    rintro e w11 ⟨rfl, hx11⟩
    refine hK1.out _ _ (⟨hHeld.1.trans hx11, Ext.range_ hx11 hHeld.2.1, Ext.cell_ hx11 hHeld.2.2.1, Ext.cell_ hx11 hHeld.2.2.2.1, Ext.cell_ hx11 hHeld.2.2.2.2.1, Ext.cell_ hx11 hHeld.2.2.2.2.2.1, Ext.cell_ hx11 hHeld.2.2.2.2.2.2.1, Ext.cell_ hx11 hHeld.2.2.2.2.2.2.2⟩) (fun hHeld => ?_)
    clear hK1
    try simp only [Act.put, List.setIfInBounds_toArray, List.set_cons_zero, List.set_cons_succ]
    refine take_ 19 (v := ?_) rfl (by kernel_rfl) (by kernel_rfl) (by kernel_rfl) (fun _ _ _ h => h) hHeld (by rfl) ?_ ?_
    rotate_left 1
    · (intro w hSw; (try dsimp only at hSw); go_simp; all_goals with_reducible rfl)
    try simp only [Act.put, List.setIfInBounds_toArray, List.set_cons_zero, List.set_cons_succ]
    refine take_ 21 (v := ?_) rfl (by kernel_rfl) (by kernel_rfl) (by kernel_rfl) (fun _ _ _ h => h) hHeld (by rfl) ?_ ?_
    rotate_left 1
    · (intro w hSw; (try dsimp only at hSw); go_simp; all_goals with_reducible rfl)
    try simp only [Act.put, List.setIfInBounds_toArray, List.set_cons_zero, List.set_cons_succ]
    refine take_ 22 (v := ?_) rfl (by kernel_rfl) (by kernel_rfl) (by kernel_rfl) (fun _ _ _ h => h) hHeld (by rfl) ?_ ?_
    rotate_left 1
    · (intro w hSw; (try dsimp only at hSw); go_simp; all_goals with_reducible rfl)
    try simp only [Act.put, List.setIfInBounds_toArray, List.set_cons_zero, List.set_cons_succ]
    refine take_ 23 (v := ?_) rfl (by kernel_rfl) (by kernel_rfl) (by kernel_rfl) (fun _ _ _ h => h) hHeld (by rfl) ?_ ?_
    rotate_left 1
    · (intro w hSw; (try dsimp only at hSw); go_simp; all_goals with_reducible rfl)
    try simp only [Act.put, List.setIfInBounds_toArray, List.set_cons_zero, List.set_cons_succ]
    refine take_ 24 (v := ?_) rfl (by kernel_rfl) (by kernel_rfl) (by kernel_rfl) (fun _ _ _ h => h) hHeld (by rfl) ?_ ?_
    rotate_left 1
    · (intro w hSw; (try dsimp only at hSw); go_simp; all_goals with_reducible rfl)
    try simp only [Act.put, List.setIfInBounds_toArray, List.set_cons_zero, List.set_cons_succ]
    refine take_ 25 (v := ?_) rfl (by kernel_rfl) (by kernel_rfl) (by kernel_rfl) (fun _ _ _ h => h) hHeld (by rfl) ?_ ?_
    rotate_left 1
    · (intro w hSw; (try dsimp only at hSw); go_simp; all_goals with_reducible rfl)
    try simp only [Act.put, List.setIfInBounds_toArray, List.set_cons_zero, List.set_cons_succ]
    refine take_ 26 (v := ?_) rfl (by kernel_rfl) (by kernel_rfl) (by kernel_rfl) (fun _ _ _ h => h) hHeld (by rfl) ?_ ?_
    rotate_left 1
    · (intro w hSw; (try dsimp only at hSw); go_simp; all_goals with_reducible rfl)
    try simp only [Act.put, List.setIfInBounds_toArray, List.set_cons_zero, List.set_cons_succ]
    refine take_ 27 (v := ?_) rfl (by kernel_rfl) (by kernel_rfl) (by kernel_rfl) (fun _ _ _ h => h) hHeld (by rfl) ?_ ?_
    rotate_left 1
    · (intro w hSw; (try dsimp only at hSw); go_simp; all_goals with_reducible rfl)
    try simp only [Act.put, List.setIfInBounds_toArray, List.set_cons_zero, List.set_cons_succ]
    refine take_ 28 (v := ?_) rfl (by kernel_rfl) (by kernel_rfl) (by kernel_rfl) (fun _ _ _ h => h) hHeld (by rfl) ?_ ?_
    rotate_left 1
    · (intro w hSw; (try dsimp only at hSw); go_simp; all_goals with_reducible rfl)
    try simp only [Act.put, List.setIfInBounds_toArray, List.set_cons_zero, List.set_cons_succ]
    refine take_ 29 (v := ?_) rfl (by kernel_rfl) (by kernel_rfl) (by kernel_rfl) (fun _ _ _ h => h) hHeld (by rfl) ?_ ?_
    rotate_left 1
    · (intro w hSw; (try dsimp only at hSw); go_simp; all_goals with_reducible rfl)
    try simp only [Act.put, List.setIfInBounds_toArray, List.set_cons_zero, List.set_cons_succ]
    refine take_ 30 (v := ?_) rfl (by kernel_rfl) (by kernel_rfl) (by kernel_rfl) (fun _ _ _ h => h) hHeld (by rfl) ?_ ?_
    rotate_left 1
    · (intro w hSw; (try dsimp only at hSw); go_simp; all_goals with_reducible rfl)
    try simp only [Act.put, List.setIfInBounds_toArray, List.set_cons_zero, List.set_cons_succ]
    refine take_ 31 (v := ?_) rfl (by kernel_rfl) (by kernel_rfl) (by kernel_rfl) (fun _ _ _ h => h) hHeld (by rfl) ?_ ?_
    rotate_left 1
    · (intro w hSw; (try dsimp only at hSw); go_simp; all_goals with_reducible rfl)
    try simp only [Act.put, List.setIfInBounds_toArray, List.set_cons_zero, List.set_cons_succ]
    refine take_ 32 (v := ?_) rfl (by kernel_rfl) (by kernel_rfl) (by kernel_rfl) (fun _ _ _ h => h) hHeld (by rfl) ?_ ?_
    rotate_left 1
    · (intro w hSw; (try dsimp only at hSw); go_simp; all_goals with_reducible rfl)
    try simp only [Act.put, List.setIfInBounds_toArray, List.set_cons_zero, List.set_cons_succ]
    refine take_ 33 (v := ?_) rfl (by kernel_rfl) (by kernel_rfl) (by kernel_rfl) (fun _ _ _ h => h) hHeld (by rfl) ?_ ?_
    rotate_left 1
    · (intro w hSw; (try dsimp only at hSw); go_simp; all_goals with_reducible rfl)
    try simp only [Act.put, List.setIfInBounds_toArray, List.set_cons_zero, List.set_cons_succ]
    refine take_ 34 (v := ?_) rfl (by kernel_rfl) (by kernel_rfl) (by kernel_rfl) (fun _ _ _ h => h) hHeld (by rfl) ?_ ?_
    rotate_left 1
    · (intro w hSw; (try dsimp only at hSw); go_simp; all_goals with_reducible rfl)
    try simp only [Act.put, List.setIfInBounds_toArray, List.set_cons_zero, List.set_cons_succ]
    refine take_ 35 (v := ?_) rfl (by kernel_rfl) (by kernel_rfl) (by kernel_rfl) (fun _ _ _ h => h) hHeld (by rfl) ?_ ?_
    rotate_left 1
    · (intro w hSw; (try dsimp only at hSw); go_simp; all_goals with_reducible rfl)
    try simp only [Act.put, List.setIfInBounds_toArray, List.set_cons_zero, List.set_cons_succ]
    refine take_ 36 (v := ?_) rfl (by kernel_rfl) (by kernel_rfl) (by kernel_rfl) (fun _ _ _ h => h) hHeld (by rfl) ?_ ?_
    rotate_left 1
    · (intro w hSw; (try dsimp only at hSw); go_simp; all_goals with_reducible rfl)
    try simp only [Act.put, List.setIfInBounds_toArray, List.set_cons_zero, List.set_cons_succ]
    refine take_ 37 (v := ?_) rfl (by kernel_rfl) (by kernel_rfl) (by kernel_rfl) (fun _ _ _ h => h) hHeld (by rfl) ?_ ?_
    rotate_left 1
    · (intro w hSw; (try dsimp only at hSw); go_simp; all_goals with_reducible rfl)
    try simp only [Act.put, List.setIfInBounds_toArray, List.set_cons_zero, List.set_cons_succ]
    refine take_ 38 (v := ?_) rfl (by kernel_rfl) (by kernel_rfl) (by kernel_rfl) (fun _ _ _ h => h) hHeld (by rfl) ?_ ?_
    rotate_left 1
    · (intro w hSw; (try dsimp only at hSw); go_simp; all_goals with_reducible rfl)
    try simp only [Act.put, List.setIfInBounds_toArray, List.set_cons_zero, List.set_cons_succ]
    refine take_ 39 (v := ?_) rfl (by kernel_rfl) (by kernel_rfl) (by kernel_rfl) (fun _ _ _ h => h) hHeld (by rfl) ?_ ?_
    rotate_left 1
    · (intro w hSw; (try dsimp only at hSw); go_simp; all_goals with_reducible rfl)
    try simp only [Act.put, List.setIfInBounds_toArray, List.set_cons_zero, List.set_cons_succ]
    refine take_ 40 (v := ?_) rfl (by kernel_rfl) (by kernel_rfl) (by kernel_rfl) (fun _ _ _ h => h) hHeld (by rfl) ?_ ?_
    rotate_left 1
    · (intro w hSw; (try dsimp only at hSw); go_simp; all_goals with_reducible rfl)
    try simp only [Act.put, List.setIfInBounds_toArray, List.set_cons_zero, List.set_cons_succ]
    refine take_ 41 (v := ?_) rfl (by kernel_rfl) (by kernel_rfl) (by kernel_rfl) (fun _ _ _ h => h) hHeld (by rfl) ?_ ?_
    rotate_left 1
    · (intro w hSw; (try dsimp only at hSw); go_simp; all_goals with_reducible rfl)
    try simp only [Act.put, List.setIfInBounds_toArray, List.set_cons_zero, List.set_cons_succ]
    refine take_ 42 (v := ?_) rfl (by kernel_rfl) (by kernel_rfl) (by kernel_rfl) (fun _ _ _ h => h) hHeld (by rfl) ?_ ?_
    rotate_left 1
    · (intro w hSw; (try dsimp only at hSw); go_simp; all_goals with_reducible rfl)
    try simp only [Act.put, List.setIfInBounds_toArray, List.set_cons_zero, List.set_cons_succ]
    refine take_ 43 (v := ?_) rfl (by kernel_rfl) (by kernel_rfl) (by kernel_rfl) (fun _ _ _ h => h) hHeld (by rfl) ?_ ?_
    rotate_left 1
    · (intro w hSw; (try dsimp only at hSw); go_simp; all_goals with_reducible rfl)
    try simp only [Act.put, List.setIfInBounds_toArray, List.set_cons_zero, List.set_cons_succ]
    refine take_ 44 (v := ?_) rfl (by kernel_rfl) (by kernel_rfl) (by kernel_rfl) (fun _ _ _ h => h) hHeld (by rfl) ?_ ?_
    rotate_left 1
    · (intro w hSw; (try dsimp only at hSw); go_simp; all_goals with_reducible rfl)
    try simp only [Act.put, List.setIfInBounds_toArray, List.set_cons_zero, List.set_cons_succ]
    refine take_ 45 (v := ?_) rfl (by kernel_rfl) (by kernel_rfl) (by kernel_rfl) (fun _ _ _ h => h) hHeld (by rfl) ?_ ?_
    rotate_left 1
    · (intro w hSw; (try dsimp only at hSw); go_simp; all_goals with_reducible rfl)
    try simp only [Act.put, List.setIfInBounds_toArray, List.set_cons_zero, List.set_cons_succ]
    refine take_ 46 (v := ?_) rfl (by kernel_rfl) (by kernel_rfl) (by kernel_rfl) (fun _ _ _ h => h) hHeld (by rfl) ?_ ?_
    rotate_left 1
    · (intro w hSw; (try dsimp only at hSw); go_simp; all_goals with_reducible rfl)
    try simp only [Act.put, List.setIfInBounds_toArray, List.set_cons_zero, List.set_cons_succ]
    refine take_ 47 (v := ?_) rfl (by kernel_rfl) (by kernel_rfl) (by kernel_rfl) (fun _ _ _ h => h) hHeld (by rfl) ?_ ?_
    rotate_left 1
    · (intro w hSw; (try dsimp only at hSw); go_simp; all_goals with_reducible rfl)
    try simp only [Act.put, List.setIfInBounds_toArray, List.set_cons_zero, List.set_cons_succ]
    refine take_ 48 (v := ?_) rfl (by kernel_rfl) (by kernel_rfl) (by kernel_rfl) (fun _ _ _ h => h) hHeld (by rfl) ?_ ?_
    rotate_left 1
    · (intro w hSw; (try dsimp only at hSw); go_simp; all_goals with_reducible rfl)
    try simp only [Act.put, List.setIfInBounds_toArray, List.set_cons_zero, List.set_cons_succ]
    refine take_ 49 (v := ?_) rfl (by kernel_rfl) (by kernel_rfl) (by kernel_rfl) (fun _ _ _ h => h) hHeld (by rfl) ?_ ?_
    rotate_left 1
    · (intro w hSw; (try dsimp only at hSw); go_simp; all_goals with_reducible rfl)
    try simp only [Act.put, List.setIfInBounds_toArray, List.set_cons_zero, List.set_cons_succ]
    refine take_ 50 (v := ?_) rfl (by kernel_rfl) (by kernel_rfl) (by kernel_rfl) (fun _ _ _ h => h) hHeld (by rfl) ?_ ?_
    rotate_left 1
    · (intro w hSw; (try dsimp only at hSw); go_simp; all_goals with_reducible rfl)
    try simp only [Act.put, List.setIfInBounds_toArray, List.set_cons_zero, List.set_cons_succ]
    refine take_ 51 (v := ?_) rfl (by kernel_rfl) (by kernel_rfl) (by kernel_rfl) (fun _ _ _ h => h) hHeld (by rfl) ?_ ?_
    rotate_left 1
    · (intro w hSw; (try dsimp only at hSw); go_simp; all_goals with_reducible rfl)
    try simp only [Act.put, List.setIfInBounds_toArray, List.set_cons_zero, List.set_cons_succ]
    refine take_ 52 (v := ?_) rfl (by kernel_rfl) (by kernel_rfl) (by kernel_rfl) (fun _ _ _ h => h) hHeld (by rfl) ?_ ?_
    rotate_left 1
    · (intro w hSw; (try dsimp only at hSw); go_simp; all_goals with_reducible rfl)
    try simp only [Act.put, List.setIfInBounds_toArray, List.set_cons_zero, List.set_cons_succ]
    refine take_ 53 (v := ?_) rfl (by kernel_rfl) (by kernel_rfl) (by kernel_rfl) (fun _ _ _ h => h) hHeld (by rfl) ?_ ?_
    rotate_left 1
    · (intro w hSw; (try dsimp only at hSw); go_simp; all_goals with_reducible rfl)
    try simp only [Act.put, List.setIfInBounds_toArray, List.set_cons_zero, List.set_cons_succ]
    refine take_ 54 (v := ?_) rfl (by kernel_rfl) (by kernel_rfl) (by kernel_rfl) (fun _ _ _ h => h) hHeld (by rfl) ?_ ?_
    rotate_left 1
    · (intro w hSw; (try dsimp only at hSw); go_simp; all_goals with_reducible rfl)
    try simp only [Act.put, List.setIfInBounds_toArray, List.set_cons_zero, List.set_cons_succ]
    refine take_ 55 (v := ?_) rfl (by kernel_rfl) (by kernel_rfl) (by kernel_rfl) (fun _ _ _ h => h) hHeld (by rfl) ?_ ?_
    rotate_left 1
    · (intro w hSw; (try dsimp only at hSw); go_simp; all_goals with_reducible rfl)
    try simp only [Act.put, List.setIfInBounds_toArray, List.set_cons_zero, List.set_cons_succ]
    refine take_ 56 (v := ?_) rfl (by kernel_rfl) (by kernel_rfl) (by kernel_rfl) (fun _ _ _ h => h) hHeld (by rfl) ?_ ?_
    rotate_left 1
    · (intro w hSw; (try dsimp only at hSw); go_simp; all_goals with_reducible rfl)
    try simp only [Act.put, List.setIfInBounds_toArray, List.set_cons_zero, List.set_cons_succ]
    refine take_ 57 (v := ?_) rfl (by kernel_rfl) (by kernel_rfl) (by kernel_rfl) (fun _ _ _ h => h) hHeld (by rfl) ?_ ?_
    rotate_left 1
    · (intro w hSw; (try dsimp only at hSw); go_simp; all_goals with_reducible rfl)
    try simp only [Act.put, List.setIfInBounds_toArray, List.set_cons_zero, List.set_cons_succ]
    refine take_ 58 (v := ?_) rfl (by kernel_rfl) (by kernel_rfl) (by kernel_rfl) (fun _ _ _ h => h) hHeld (by rfl) ?_ ?_
    rotate_left 1
    · (intro w hSw; (try dsimp only at hSw); go_simp; all_goals with_reducible rfl)
    try simp only [Act.put, List.setIfInBounds_toArray, List.set_cons_zero, List.set_cons_succ]
    refine only_ 59 rfl (by kernel_rfl) (fun K1 hK1 => ?_)
    go_simp
    go_at_call 23
    refine (HLIV.out _ (HX5.out.trans (HX10.out.trans hHeld.1))).mono ?_
    rintro e w11 ⟨rfl, hx11⟩
    refine hK1.out _ _ (⟨hHeld.1.trans hx11, Ext.range_ hx11 hHeld.2.1, Ext.cell_ hx11 hHeld.2.2.1, Ext.cell_ hx11 hHeld.2.2.2.1, Ext.cell_ hx11 hHeld.2.2.2.2.1, Ext.cell_ hx11 hHeld.2.2.2.2.2.1, Ext.cell_ hx11 hHeld.2.2.2.2.2.2.1, Ext.cell_ hx11 hHeld.2.2.2.2.2.2.2⟩) (fun hHeld => ?_)
    clear hK1
    try simp only [Act.put, List.setIfInBounds_toArray, List.set_cons_zero, List.set_cons_succ]
    refine take_ 60 (v := ?_) rfl (by kernel_rfl) (by kernel_rfl) (by kernel_rfl) (fun _ _ _ h => h) hHeld (by rfl) ?_ ?_
    rotate_left 1
    · (intro w hSw; (try dsimp only at hSw); go_simp; all_goals with_reducible rfl)
    try simp only [Act.put, List.setIfInBounds_toArray, List.set_cons_zero, List.set_cons_succ]
    refine take_ 61 (v := ?_) rfl (by kernel_rfl) (by kernel_rfl) (by kernel_rfl) (fun _ _ _ h => h) hHeld (by rfl) ?_ ?_
    rotate_left 1
    · (intro w hSw; (try dsimp only at hSw); go_simp; all_goals with_reducible rfl)
    try simp only [Act.put, List.setIfInBounds_toArray, List.set_cons_zero, List.set_cons_succ]
    refine wpAnyH_done (by kernel_rfl) ?_ _
    refine NoPanic.normal ?_
    go_wp2
    go_ret
    exact ⟨rfl, HX3.out.trans (HX5.out.trans (HX10.out.trans hHeld.1))⟩
  · have hu := HDN.out hlo hhi
    have j1 : d0 ≥ 0 := hlo
    have hie : u.isEmpty = false := by simpa using hu
    have hd9 : decide (d0 ≤ 9) = true := decide_eq_true hhi
    go_upto_region 10 with (first
      | (go_at_call 24; with_reducible refine (HAK.out _).mono ?_; rintro e w9 ⟨rfl, rfl⟩)
      | (go_at_call 38; with_reducible refine (HSZ.out _ HX8.out).mono ?_; rintro e w9 ⟨rfl, hx9⟩)
      | (go_at_call 39; with_reducible refine (HLE.out _ (HX8.out.trans hx9)).mono ?_; rintro e w10 ⟨rfl, hx10⟩))
    have hx910 := hx9.trans hx10
    have HX10 := Lib.hid (HX8.out.trans hx910)
    have i12 := Ext.cell_ hx910 c12
    have i13 := Ext.cell_ hx910 c13
    have i14 := Ext.cell_ hx910 c14
    have i15 := Ext.cell_ hx910 c15
    have i16 := Ext.cell_ hx910 c16
    have i2 := Ext.cell_ hx910 q2
    have hr10 := Ext.range_ hx910 HRG8.out
    clear hx9 hx10 hx910 c12 c13 c14 c15 c16 q2
    refine wp_region_noPanic ?_
    refine wp_region_held_drew (S := fun W => Ext w10 W ∧ W.rangeAt rb 0 [.string ⟨r.name.toArray⟩, .string ⟨r.pattern.toArray⟩, .string ⟨r.system.toArray⟩, .string ⟨r.decimal.toArray⟩, .string ⟨r.group.toArray⟩, .string ⟨r.minus.toArray⟩, .string ⟨r.percent.toArray⟩, .string ⟨r.currency.toArray⟩] ∧ W.cell? ⟨rb, 2, none⟩ = some (.string ⟨r.system.toArray⟩) ∧ W.cell? ⟨lb, 12, none⟩ = some (.int .i64 n1) ∧ W.cell? ⟨lb, 13, none⟩ = some (.int .i64 n2) ∧ W.cell? ⟨lb, 14, none⟩ = some (.int .i64 n3) ∧ W.cell? ⟨lb, 15, none⟩ = some (.int .i64 n4) ∧ W.cell? ⟨lb, 16, none⟩ = some (.int .i64 n5)) (by kernel_rfl) ?_ (fun hHeld => ?_)
    · exact ⟨Ext.drew_ (Ext.refl _), hr10, i2, i12, i13, i14, i15, i16⟩
    refine take_ 0 (v := ?_) rfl (by kernel_rfl) (by kernel_rfl) (by kernel_rfl) (fun _ _ _ h => h) hHeld (by rfl) ?_ ?_
    rotate_left 1
    · (intro w hSw; (try dsimp only at hSw); go_simp; all_goals with_reducible rfl)
    try simp only [Act.put, List.setIfInBounds_toArray, List.set_cons_zero, List.set_cons_succ]
    refine takeRow_ (cs := [.string ⟨r.name.toArray⟩, .string ⟨r.pattern.toArray⟩, .string ⟨r.system.toArray⟩, .string ⟨r.decimal.toArray⟩, .string ⟨r.group.toArray⟩, .string ⟨r.minus.toArray⟩, .string ⟨r.percent.toArray⟩, .string ⟨r.currency.toArray⟩]) 2 rfl (by kernel_rfl) (by kernel_rfl) (by kernel_rfl) (fun _ _ _ h => h) hHeld (by rfl) 45 ((.tmp 5)) rfl rb (0) rfl _ (fun _ h => h.2.1) Tryz.underlying45 rfl infoR ?_
    try simp only [Act.put, List.setIfInBounds_toArray, List.set_cons_zero, List.set_cons_succ]
    refine only_ 1 rfl (by kernel_rfl) (fun K1 hK1 => ?_)
    go_simp
    go_at_call 40
    refine (HREC.out _ (HX10.out.trans hHeld.1)).mono ?_
    rintro e w11 ⟨rfl, hx11⟩
    refine hK1.out _ _ (⟨hHeld.1.trans hx11, Ext.range_ hx11 hHeld.2.1, Ext.cell_ hx11 hHeld.2.2.1, Ext.cell_ hx11 hHeld.2.2.2.1, Ext.cell_ hx11 hHeld.2.2.2.2.1, Ext.cell_ hx11 hHeld.2.2.2.2.2.1, Ext.cell_ hx11 hHeld.2.2.2.2.2.2.1, Ext.cell_ hx11 hHeld.2.2.2.2.2.2.2⟩) (fun hHeld => ?_)
    clear hK1
    try simp only [Act.put, List.setIfInBounds_toArray, List.set_cons_zero, List.set_cons_succ]
    refine only_ 3 rfl (by kernel_rfl) (fun K1 hK1 => ?_)
    go_simp
    go_at_call 19
    refine (HOF2.out _).mono ?_
    rintro e w11 ⟨rfl, hx11⟩
    refine hK1.out _ _ (⟨hHeld.1.trans hx11, Ext.range_ hx11 hHeld.2.1, Ext.cell_ hx11 hHeld.2.2.1, Ext.cell_ hx11 hHeld.2.2.2.1, Ext.cell_ hx11 hHeld.2.2.2.2.1, Ext.cell_ hx11 hHeld.2.2.2.2.2.1, Ext.cell_ hx11 hHeld.2.2.2.2.2.2.1, Ext.cell_ hx11 hHeld.2.2.2.2.2.2.2⟩) (fun hHeld => ?_)
    clear hK1
    try simp only [Act.put, List.setIfInBounds_toArray, List.set_cons_zero, List.set_cons_succ]
    refine take_ 4 (v := ?_) rfl (by kernel_rfl) (by kernel_rfl) (by kernel_rfl) (fun _ _ _ h => h) hHeld (by rfl) ?_ ?_
    rotate_left 1
    · (intro w hSw; (try dsimp only at hSw); go_simp; all_goals with_reducible rfl)
    try simp only [Act.put, List.setIfInBounds_toArray, List.set_cons_zero, List.set_cons_succ]
    refine take_ 5 (v := ?_) rfl (by kernel_rfl) (by kernel_rfl) (by kernel_rfl) (fun _ _ _ h => h) hHeld (by rfl) ?_ ?_
    rotate_left 1
    · (intro w hSw; (try dsimp only at hSw); go_simp; all_goals with_reducible rfl)
    try simp only [Act.put, List.setIfInBounds_toArray, List.set_cons_zero, List.set_cons_succ]
    refine take_ 6 (v := ?_) rfl (by kernel_rfl) (by kernel_rfl) (by kernel_rfl) (fun _ _ _ h => h) hHeld (by rfl) ?_ ?_
    rotate_left 1
    · (intro w hSw; (try dsimp only at hSw); go_simp; all_goals with_reducible rfl)
    try simp only [Act.put, List.setIfInBounds_toArray, List.set_cons_zero, List.set_cons_succ]
    refine take_ 7 (v := ?_) rfl (by kernel_rfl) (by kernel_rfl) (by kernel_rfl) (fun _ _ _ h => h) hHeld (by rfl) ?_ ?_
    rotate_left 1
    · (intro w hSw; (try dsimp only at hSw); go_simp; all_goals with_reducible rfl)
    try simp only [Act.put, List.setIfInBounds_toArray, List.set_cons_zero, List.set_cons_succ]
    refine take_ 9 (v := ?_) rfl (by kernel_rfl) (by kernel_rfl) (by kernel_rfl) (fun _ _ _ h => h) hHeld (by rfl) ?_ ?_
    rotate_left 1
    · (intro w hSw; (try dsimp only at hSw); go_simp; all_goals with_reducible rfl)
    try simp only [Act.put, List.setIfInBounds_toArray, List.set_cons_zero, List.set_cons_succ]
    refine take_ 10 (v := ?_) rfl (by kernel_rfl) (by kernel_rfl) (by kernel_rfl) (fun _ _ _ h => h) hHeld (by rfl) ?_ ?_
    rotate_left 1
    · (intro w hSw; (try dsimp only at hSw); go_simp; all_goals with_reducible rfl)
    try simp only [Act.put, List.setIfInBounds_toArray, List.set_cons_zero, List.set_cons_succ]
    refine take_ 11 (v := ?_) rfl (by kernel_rfl) (by kernel_rfl) (by kernel_rfl) (fun _ _ _ h => h) hHeld (by rfl) ?_ ?_
    rotate_left 1
    · (intro w hSw; (try dsimp only at hSw); go_simp; all_goals with_reducible rfl)
    try simp only [Act.put, List.setIfInBounds_toArray, List.set_cons_zero, List.set_cons_succ]
    refine only_ 8 rfl (by kernel_rfl) (fun K1 hK1 => ?_)
    go_simp
    go_at_call 37
    refine (HD1.out _ (HX10.out.trans hHeld.1)).mono ?_
    rintro e w11 ⟨rfl, hx11⟩
    refine hK1.out _ _ (⟨hHeld.1.trans hx11, Ext.range_ hx11 hHeld.2.1, Ext.cell_ hx11 hHeld.2.2.1, Ext.cell_ hx11 hHeld.2.2.2.1, Ext.cell_ hx11 hHeld.2.2.2.2.1, Ext.cell_ hx11 hHeld.2.2.2.2.2.1, Ext.cell_ hx11 hHeld.2.2.2.2.2.2.1, Ext.cell_ hx11 hHeld.2.2.2.2.2.2.2⟩) (fun hHeld => ?_)
    clear hK1
    try simp only [Act.put, List.setIfInBounds_toArray, List.set_cons_zero, List.set_cons_succ]
    refine only_ 12 rfl (by kernel_rfl) (fun K1 hK1 => ?_)
    go_simp
    go_at_call 32
    refine (HD2.out _).mono ?_
    rintro e w11 ⟨rfl, hx11⟩
    refine hK1.out _ _ (⟨hHeld.1.trans hx11, Ext.range_ hx11 hHeld.2.1, Ext.cell_ hx11 hHeld.2.2.1, Ext.cell_ hx11 hHeld.2.2.2.1, Ext.cell_ hx11 hHeld.2.2.2.2.1, Ext.cell_ hx11 hHeld.2.2.2.2.2.1, Ext.cell_ hx11 hHeld.2.2.2.2.2.2.1, Ext.cell_ hx11 hHeld.2.2.2.2.2.2.2⟩) (fun hHeld => ?_)
    clear hK1
    try simp only [Act.put, List.setIfInBounds_toArray, List.set_cons_zero, List.set_cons_succ]
    refine take_ 13 (v := ?_) rfl (by kernel_rfl) (by kernel_rfl) (by kernel_rfl) (fun _ _ _ h => h) hHeld (by rfl) ?_ ?_
    rotate_left 1
    · (intro w hSw; (try dsimp only at hSw); go_simp; all_goals with_reducible rfl)
    try simp only [Act.put, List.setIfInBounds_toArray, List.set_cons_zero, List.set_cons_succ]
    refine take_ 14 (v := ?_) rfl (by kernel_rfl) (by kernel_rfl) (by kernel_rfl) (fun _ _ _ h => h) hHeld (by rfl) ?_ ?_
    rotate_left 1
    · (intro w hSw; (try dsimp only at hSw); go_simp; all_goals with_reducible rfl)
    try simp only [Act.put, List.setIfInBounds_toArray, List.set_cons_zero, List.set_cons_succ]
    refine take_ 15 (v := ?_) rfl (by kernel_rfl) (by kernel_rfl) (by kernel_rfl) (fun _ _ _ h => h) hHeld (by rfl) ?_ ?_
    rotate_left 1
    · (intro w hSw; (try dsimp only at hSw); go_simp; all_goals with_reducible rfl)
    try simp only [Act.put, List.setIfInBounds_toArray, List.set_cons_zero, List.set_cons_succ]
    refine take_ 16 (v := ?_) rfl (by kernel_rfl) (by kernel_rfl) (by kernel_rfl) (fun _ _ _ h => h) hHeld (by rfl) ?_ ?_
    rotate_left 1
    · (intro w hSw; (try dsimp only at hSw); go_simp; all_goals with_reducible rfl)
    try simp only [Act.put, List.setIfInBounds_toArray, List.set_cons_zero, List.set_cons_succ]
    refine take_ 17 (v := ?_) rfl (by kernel_rfl) (by kernel_rfl) (by kernel_rfl) (fun _ _ _ h => h) hHeld (by rfl) ?_ ?_
    rotate_left 1
    · (intro w hSw; (try dsimp only at hSw); go_simp; all_goals with_reducible rfl)
    try simp only [Act.put, List.setIfInBounds_toArray, List.set_cons_zero, List.set_cons_succ]
    refine take_ 20 (v := ?_) rfl (by kernel_rfl) (by kernel_rfl) (by kernel_rfl) (fun _ _ _ h => h) hHeld (by rfl) ?_ ?_
    rotate_left 1
    · (intro w hSw; (try dsimp only at hSw); go_simp; all_goals with_reducible rfl)
    try simp only [Act.put, List.setIfInBounds_toArray, List.set_cons_zero, List.set_cons_succ]
    refine only_ 18 rfl (by kernel_rfl) (fun K1 hK1 => ?_)
    go_simp
    go_at_call 37
    refine (HD3.out _ (HX10.out.trans hHeld.1)).mono ?_
    rintro e w11 ⟨rfl, hx11⟩
    refine hK1.out _ _ (⟨hHeld.1.trans hx11, Ext.range_ hx11 hHeld.2.1, Ext.cell_ hx11 hHeld.2.2.1, Ext.cell_ hx11 hHeld.2.2.2.1, Ext.cell_ hx11 hHeld.2.2.2.2.1, Ext.cell_ hx11 hHeld.2.2.2.2.2.1, Ext.cell_ hx11 hHeld.2.2.2.2.2.2.1, Ext.cell_ hx11 hHeld.2.2.2.2.2.2.2⟩) (fun hHeld => ?_)
    clear hK1
    try simp only [Act.put, List.setIfInBounds_toArray, List.set_cons_zero, List.set_cons_succ]
    refine take_ 19 (v := ?_) rfl (by kernel_rfl) (by kernel_rfl) (by kernel_rfl) (fun _ _ _ h => h) hHeld (by rfl) ?_ ?_
    rotate_left 1
    · (intro w hSw; (try dsimp only at hSw); go_simp; all_goals with_reducible rfl)
    try simp only [Act.put, List.setIfInBounds_toArray, List.set_cons_zero, List.set_cons_succ]
    refine take_ 21 (v := ?_) rfl (by kernel_rfl) (by kernel_rfl) (by kernel_rfl) (fun _ _ _ h => h) hHeld (by rfl) ?_ ?_
    rotate_left 1
    · (intro w hSw; (try dsimp only at hSw); go_simp; all_goals with_reducible rfl)
    try simp only [Act.put, List.setIfInBounds_toArray, List.set_cons_zero, List.set_cons_succ]
    refine take_ 22 (v := ?_) rfl (by kernel_rfl) (by kernel_rfl) (by kernel_rfl) (fun _ _ _ h => h) hHeld (by rfl) ?_ ?_
    rotate_left 1
    · (intro w hSw; (try dsimp only at hSw); go_simp; all_goals with_reducible rfl)
    try simp only [Act.put, List.setIfInBounds_toArray, List.set_cons_zero, List.set_cons_succ]
    refine take_ 23 (v := ?_) rfl (by kernel_rfl) (by kernel_rfl) (by kernel_rfl) (fun _ _ _ h => h) hHeld (by rfl) ?_ ?_
    rotate_left 1
    · (intro w hSw; (try dsimp only at hSw); go_simp; all_goals with_reducible rfl)
    try simp only [Act.put, List.setIfInBounds_toArray, List.set_cons_zero, List.set_cons_succ]
    refine take_ 24 (v := ?_) rfl (by kernel_rfl) (by kernel_rfl) (by kernel_rfl) (fun _ _ _ h => h) hHeld (by rfl) ?_ ?_
    rotate_left 1
    · (intro w hSw; (try dsimp only at hSw); go_simp; all_goals with_reducible rfl)
    try simp only [Act.put, List.setIfInBounds_toArray, List.set_cons_zero, List.set_cons_succ]
    refine take_ 25 (v := ?_) rfl (by kernel_rfl) (by kernel_rfl) (by kernel_rfl) (fun _ _ _ h => h) hHeld (by rfl) ?_ ?_
    rotate_left 1
    · (intro w hSw; (try dsimp only at hSw); go_simp; all_goals with_reducible rfl)
    try simp only [Act.put, List.setIfInBounds_toArray, List.set_cons_zero, List.set_cons_succ]
    refine take_ 26 (v := ?_) rfl (by kernel_rfl) (by kernel_rfl) (by kernel_rfl) (fun _ _ _ h => h) hHeld (by rfl) ?_ ?_
    rotate_left 1
    · (intro w hSw; (try dsimp only at hSw); go_simp; all_goals with_reducible rfl)
    try simp only [Act.put, List.setIfInBounds_toArray, List.set_cons_zero, List.set_cons_succ]
    refine take_ 27 (v := ?_) rfl (by kernel_rfl) (by kernel_rfl) (by kernel_rfl) (fun _ _ _ h => h) hHeld (by rfl) ?_ ?_
    rotate_left 1
    · (intro w hSw; (try dsimp only at hSw); go_simp; all_goals with_reducible rfl)
    try simp only [Act.put, List.setIfInBounds_toArray, List.set_cons_zero, List.set_cons_succ]
    refine take_ 28 (v := ?_) rfl (by kernel_rfl) (by kernel_rfl) (by kernel_rfl) (fun _ _ _ h => h) hHeld (by rfl) ?_ ?_
    rotate_left 1
    · (intro w hSw; (try dsimp only at hSw); go_simp; all_goals with_reducible rfl)
    try simp only [Act.put, List.setIfInBounds_toArray, List.set_cons_zero, List.set_cons_succ]
    refine take_ 29 (v := ?_) rfl (by kernel_rfl) (by kernel_rfl) (by kernel_rfl) (fun _ _ _ h => h) hHeld (by rfl) ?_ ?_
    rotate_left 1
    · (intro w hSw; (try dsimp only at hSw); go_simp; all_goals with_reducible rfl)
    try simp only [Act.put, List.setIfInBounds_toArray, List.set_cons_zero, List.set_cons_succ]
    refine take_ 30 (v := ?_) rfl (by kernel_rfl) (by kernel_rfl) (by kernel_rfl) (fun _ _ _ h => h) hHeld (by rfl) ?_ ?_
    rotate_left 1
    · (intro w hSw; (try dsimp only at hSw); go_simp; all_goals with_reducible rfl)
    try simp only [Act.put, List.setIfInBounds_toArray, List.set_cons_zero, List.set_cons_succ]
    refine take_ 31 (v := ?_) rfl (by kernel_rfl) (by kernel_rfl) (by kernel_rfl) (fun _ _ _ h => h) hHeld (by rfl) ?_ ?_
    rotate_left 1
    · (intro w hSw; (try dsimp only at hSw); go_simp; all_goals with_reducible rfl)
    try simp only [Act.put, List.setIfInBounds_toArray, List.set_cons_zero, List.set_cons_succ]
    refine take_ 32 (v := ?_) rfl (by kernel_rfl) (by kernel_rfl) (by kernel_rfl) (fun _ _ _ h => h) hHeld (by rfl) ?_ ?_
    rotate_left 1
    · (intro w hSw; (try dsimp only at hSw); go_simp; all_goals with_reducible rfl)
    try simp only [Act.put, List.setIfInBounds_toArray, List.set_cons_zero, List.set_cons_succ]
    refine take_ 33 (v := ?_) rfl (by kernel_rfl) (by kernel_rfl) (by kernel_rfl) (fun _ _ _ h => h) hHeld (by rfl) ?_ ?_
    rotate_left 1
    · (intro w hSw; (try dsimp only at hSw); go_simp; all_goals with_reducible rfl)
    try simp only [Act.put, List.setIfInBounds_toArray, List.set_cons_zero, List.set_cons_succ]
    refine take_ 34 (v := ?_) rfl (by kernel_rfl) (by kernel_rfl) (by kernel_rfl) (fun _ _ _ h => h) hHeld (by rfl) ?_ ?_
    rotate_left 1
    · (intro w hSw; (try dsimp only at hSw); go_simp; all_goals with_reducible rfl)
    try simp only [Act.put, List.setIfInBounds_toArray, List.set_cons_zero, List.set_cons_succ]
    refine take_ 35 (v := ?_) rfl (by kernel_rfl) (by kernel_rfl) (by kernel_rfl) (fun _ _ _ h => h) hHeld (by rfl) ?_ ?_
    rotate_left 1
    · (intro w hSw; (try dsimp only at hSw); go_simp; all_goals with_reducible rfl)
    try simp only [Act.put, List.setIfInBounds_toArray, List.set_cons_zero, List.set_cons_succ]
    refine take_ 36 (v := ?_) rfl (by kernel_rfl) (by kernel_rfl) (by kernel_rfl) (fun _ _ _ h => h) hHeld (by rfl) ?_ ?_
    rotate_left 1
    · (intro w hSw; (try dsimp only at hSw); go_simp; all_goals with_reducible rfl)
    try simp only [Act.put, List.setIfInBounds_toArray, List.set_cons_zero, List.set_cons_succ]
    refine take_ 37 (v := ?_) rfl (by kernel_rfl) (by kernel_rfl) (by kernel_rfl) (fun _ _ _ h => h) hHeld (by rfl) ?_ ?_
    rotate_left 1
    · (intro w hSw; (try dsimp only at hSw); go_simp; all_goals with_reducible rfl)
    try simp only [Act.put, List.setIfInBounds_toArray, List.set_cons_zero, List.set_cons_succ]
    refine take_ 38 (v := ?_) rfl (by kernel_rfl) (by kernel_rfl) (by kernel_rfl) (fun _ _ _ h => h) hHeld (by rfl) ?_ ?_
    rotate_left 1
    · (intro w hSw; (try dsimp only at hSw); go_simp; all_goals with_reducible rfl)
    try simp only [Act.put, List.setIfInBounds_toArray, List.set_cons_zero, List.set_cons_succ]
    refine take_ 39 (v := ?_) rfl (by kernel_rfl) (by kernel_rfl) (by kernel_rfl) (fun _ _ _ h => h) hHeld (by rfl) ?_ ?_
    rotate_left 1
    · (intro w hSw; (try dsimp only at hSw); go_simp; all_goals with_reducible rfl)
    try simp only [Act.put, List.setIfInBounds_toArray, List.set_cons_zero, List.set_cons_succ]
    refine take_ 40 (v := ?_) rfl (by kernel_rfl) (by kernel_rfl) (by kernel_rfl) (fun _ _ _ h => h) hHeld (by rfl) ?_ ?_
    rotate_left 1
    · (intro w hSw; (try dsimp only at hSw); go_simp; all_goals with_reducible rfl)
    try simp only [Act.put, List.setIfInBounds_toArray, List.set_cons_zero, List.set_cons_succ]
    refine take_ 41 (v := ?_) rfl (by kernel_rfl) (by kernel_rfl) (by kernel_rfl) (fun _ _ _ h => h) hHeld (by rfl) ?_ ?_
    rotate_left 1
    · (intro w hSw; (try dsimp only at hSw); go_simp; all_goals with_reducible rfl)
    try simp only [Act.put, List.setIfInBounds_toArray, List.set_cons_zero, List.set_cons_succ]
    refine take_ 42 (v := ?_) rfl (by kernel_rfl) (by kernel_rfl) (by kernel_rfl) (fun _ _ _ h => h) hHeld (by rfl) ?_ ?_
    rotate_left 1
    · (intro w hSw; (try dsimp only at hSw); go_simp; all_goals with_reducible rfl)
    try simp only [Act.put, List.setIfInBounds_toArray, List.set_cons_zero, List.set_cons_succ]
    refine take_ 43 (v := ?_) rfl (by kernel_rfl) (by kernel_rfl) (by kernel_rfl) (fun _ _ _ h => h) hHeld (by rfl) ?_ ?_
    rotate_left 1
    · (intro w hSw; (try dsimp only at hSw); go_simp; all_goals with_reducible rfl)
    try simp only [Act.put, List.setIfInBounds_toArray, List.set_cons_zero, List.set_cons_succ]
    refine take_ 44 (v := ?_) rfl (by kernel_rfl) (by kernel_rfl) (by kernel_rfl) (fun _ _ _ h => h) hHeld (by rfl) ?_ ?_
    rotate_left 1
    · (intro w hSw; (try dsimp only at hSw); go_simp; all_goals with_reducible rfl)
    try simp only [Act.put, List.setIfInBounds_toArray, List.set_cons_zero, List.set_cons_succ]
    refine take_ 45 (v := ?_) rfl (by kernel_rfl) (by kernel_rfl) (by kernel_rfl) (fun _ _ _ h => h) hHeld (by rfl) ?_ ?_
    rotate_left 1
    · (intro w hSw; (try dsimp only at hSw); go_simp; all_goals with_reducible rfl)
    try simp only [Act.put, List.setIfInBounds_toArray, List.set_cons_zero, List.set_cons_succ]
    refine take_ 46 (v := ?_) rfl (by kernel_rfl) (by kernel_rfl) (by kernel_rfl) (fun _ _ _ h => h) hHeld (by rfl) ?_ ?_
    rotate_left 1
    · (intro w hSw; (try dsimp only at hSw); go_simp; all_goals with_reducible rfl)
    try simp only [Act.put, List.setIfInBounds_toArray, List.set_cons_zero, List.set_cons_succ]
    refine take_ 47 (v := ?_) rfl (by kernel_rfl) (by kernel_rfl) (by kernel_rfl) (fun _ _ _ h => h) hHeld (by rfl) ?_ ?_
    rotate_left 1
    · (intro w hSw; (try dsimp only at hSw); go_simp; all_goals with_reducible rfl)
    try simp only [Act.put, List.setIfInBounds_toArray, List.set_cons_zero, List.set_cons_succ]
    refine take_ 48 (v := ?_) rfl (by kernel_rfl) (by kernel_rfl) (by kernel_rfl) (fun _ _ _ h => h) hHeld (by rfl) ?_ ?_
    rotate_left 1
    · (intro w hSw; (try dsimp only at hSw); go_simp; all_goals with_reducible rfl)
    try simp only [Act.put, List.setIfInBounds_toArray, List.set_cons_zero, List.set_cons_succ]
    refine take_ 49 (v := ?_) rfl (by kernel_rfl) (by kernel_rfl) (by kernel_rfl) (fun _ _ _ h => h) hHeld (by rfl) ?_ ?_
    rotate_left 1
    · (intro w hSw; (try dsimp only at hSw); go_simp; all_goals with_reducible rfl)
    try simp only [Act.put, List.setIfInBounds_toArray, List.set_cons_zero, List.set_cons_succ]
    refine take_ 50 (v := ?_) rfl (by kernel_rfl) (by kernel_rfl) (by kernel_rfl) (fun _ _ _ h => h) hHeld (by rfl) ?_ ?_
    rotate_left 1
    · (intro w hSw; (try dsimp only at hSw); go_simp; all_goals with_reducible rfl)
    try simp only [Act.put, List.setIfInBounds_toArray, List.set_cons_zero, List.set_cons_succ]
    refine take_ 51 (v := ?_) rfl (by kernel_rfl) (by kernel_rfl) (by kernel_rfl) (fun _ _ _ h => h) hHeld (by rfl) ?_ ?_
    rotate_left 1
    · (intro w hSw; (try dsimp only at hSw); go_simp; all_goals with_reducible rfl)
    try simp only [Act.put, List.setIfInBounds_toArray, List.set_cons_zero, List.set_cons_succ]
    refine take_ 52 (v := ?_) rfl (by kernel_rfl) (by kernel_rfl) (by kernel_rfl) (fun _ _ _ h => h) hHeld (by rfl) ?_ ?_
    rotate_left 1
    · (intro w hSw; (try dsimp only at hSw); go_simp; all_goals with_reducible rfl)
    try simp only [Act.put, List.setIfInBounds_toArray, List.set_cons_zero, List.set_cons_succ]
    refine take_ 53 (v := ?_) rfl (by kernel_rfl) (by kernel_rfl) (by kernel_rfl) (fun _ _ _ h => h) hHeld (by rfl) ?_ ?_
    rotate_left 1
    · (intro w hSw; (try dsimp only at hSw); go_simp; all_goals with_reducible rfl)
    try simp only [Act.put, List.setIfInBounds_toArray, List.set_cons_zero, List.set_cons_succ]
    refine take_ 54 (v := ?_) rfl (by kernel_rfl) (by kernel_rfl) (by kernel_rfl) (fun _ _ _ h => h) hHeld (by rfl) ?_ ?_
    rotate_left 1
    · (intro w hSw; (try dsimp only at hSw); go_simp; all_goals with_reducible rfl)
    try simp only [Act.put, List.setIfInBounds_toArray, List.set_cons_zero, List.set_cons_succ]
    refine take_ 55 (v := ?_) rfl (by kernel_rfl) (by kernel_rfl) (by kernel_rfl) (fun _ _ _ h => h) hHeld (by rfl) ?_ ?_
    rotate_left 1
    · (intro w hSw; (try dsimp only at hSw); go_simp; all_goals with_reducible rfl)
    try simp only [Act.put, List.setIfInBounds_toArray, List.set_cons_zero, List.set_cons_succ]
    refine take_ 56 (v := ?_) rfl (by kernel_rfl) (by kernel_rfl) (by kernel_rfl) (fun _ _ _ h => h) hHeld (by rfl) ?_ ?_
    rotate_left 1
    · (intro w hSw; (try dsimp only at hSw); go_simp; all_goals with_reducible rfl)
    try simp only [Act.put, List.setIfInBounds_toArray, List.set_cons_zero, List.set_cons_succ]
    refine take_ 57 (v := ?_) rfl (by kernel_rfl) (by kernel_rfl) (by kernel_rfl) (fun _ _ _ h => h) hHeld (by rfl) ?_ ?_
    rotate_left 1
    · (intro w hSw; (try dsimp only at hSw); go_simp; all_goals with_reducible rfl)
    try simp only [Act.put, List.setIfInBounds_toArray, List.set_cons_zero, List.set_cons_succ]
    refine take_ 58 (v := ?_) rfl (by kernel_rfl) (by kernel_rfl) (by kernel_rfl) (fun _ _ _ h => h) hHeld (by rfl) ?_ ?_
    rotate_left 1
    · (intro w hSw; (try dsimp only at hSw); go_simp; all_goals with_reducible rfl)
    try simp only [Act.put, List.setIfInBounds_toArray, List.set_cons_zero, List.set_cons_succ]
    refine only_ 59 rfl (by kernel_rfl) (fun K1 hK1 => ?_)
    go_simp
    go_at_call 23
    refine (HLIV.out _ (HX5.out.trans (HX10.out.trans hHeld.1))).mono ?_
    rintro e w11 ⟨rfl, hx11⟩
    refine hK1.out _ _ (⟨hHeld.1.trans hx11, Ext.range_ hx11 hHeld.2.1, Ext.cell_ hx11 hHeld.2.2.1, Ext.cell_ hx11 hHeld.2.2.2.1, Ext.cell_ hx11 hHeld.2.2.2.2.1, Ext.cell_ hx11 hHeld.2.2.2.2.2.1, Ext.cell_ hx11 hHeld.2.2.2.2.2.2.1, Ext.cell_ hx11 hHeld.2.2.2.2.2.2.2⟩) (fun hHeld => ?_)
    clear hK1
    try simp only [Act.put, List.setIfInBounds_toArray, List.set_cons_zero, List.set_cons_succ]
    refine take_ 60 (v := ?_) rfl (by kernel_rfl) (by kernel_rfl) (by kernel_rfl) (fun _ _ _ h => h) hHeld (by rfl) ?_ ?_
    rotate_left 1
    · (intro w hSw; (try dsimp only at hSw); go_simp; all_goals with_reducible rfl)
    try simp only [Act.put, List.setIfInBounds_toArray, List.set_cons_zero, List.set_cons_succ]
    refine take_ 61 (v := ?_) rfl (by kernel_rfl) (by kernel_rfl) (by kernel_rfl) (fun _ _ _ h => h) hHeld (by rfl) ?_ ?_
    rotate_left 1
    · (intro w hSw; (try dsimp only at hSw); go_simp; all_goals with_reducible rfl)
    try simp only [Act.put, List.setIfInBounds_toArray, List.set_cons_zero, List.set_cons_succ]
    refine wpAnyH_done (by kernel_rfl) ?_ _
    refine NoPanic.normal ?_
    go_wp2
    go_ret
    exact ⟨rfl, HX3.out.trans (HX5.out.trans (HX10.out.trans hHeld.1))⟩
end Go.Proofs.YtdkjkbbibdppoaaGreatDoor.Loc
