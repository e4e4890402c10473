/- The law LocaleApart: no two of a locale's symbols are the same, and each is one cluster. (Printed by wip/gen/law11.py.) -/
import Derived.Test.YtdkjkbbibdppoaaGreatDoorLSym
import Derived.Test.YtdkjkbbibdppoaaGreatDoorLGoodW
import Derived.Test.YtdkjkbbibdppoaaGreatDoorJLocC
import Derived.Deep.RegionHeld3
namespace Go.Proofs.YtdkjkbbibdppoaaGreatDoor.Loc
open Go.RowKit Utf All Small Strs Build EncC Pat Cls Dec Go.Proofs.YtdkjkbbibdppoaaGreatDoor.Sys
set_option linter.unusedVariables false
set_option linter.unusedSimpArgs false

set_option maxHeartbeats 16000000 in
set_option maxRecDepth 1000000 in
theorem law_LocaleApart (v0 v1 v2 v3 v4 v5 : Int) (x0 y0 : Int) (hx0 : i64 x0) (hy0 : i64 y0) (w : World) (h0 : i64 v0) (h1 : i64 v1) (h2 : i64 v2) (h3 : i64 v3) (h4 : i64 v4) (h5 : i64 v5) (hT : Tabs w) :
    Calls Tryz.prog 7 #[.agg #[.int .i64 v0, .int .i64 v1, .int .i64 v2, .int .i64 v3, .int .i64 v4, .int .i64 v5], .int .i64 x0, .int .i64 y0] w fun e w' => e = .returned (.bool true) ∧ Below w.heap.size w w' := by
  obtain ⟨r, p, hB, hG⟩ : ∃ r p, Both r p ∧ ∀ W, Calls Tryz.prog 17 #[.agg #[.int .i64 v0, .int .i64 v1, .int .i64 v2, .int .i64 v3, .int .i64 v4, .int .i64 v5]] W fun e w' => e = .returned (.agg (recV r).toArray) ∧ Ext W w' :=
    ⟨_, _, both_good v0 v1 v2 v3 v4 v5, fun W => good_ v0 v1 v2 v3 v4 v5 W h0 h1 h2 h3 h4 h5⟩
  have HB := Lib.hid hB
  have HGD := Lib.hid hG
  have HTW := Lib.hid hT
  have hb1 := Box.new w 43 [.int .i64 v0, .int .i64 v1, .int .i64 v2, .int .i64 v3, .int .i64 v4, .int .i64 v5]
  have hx1 : Ext w (w.alloc (.cells ([.int .i64 v0, .int .i64 v1, .int .i64 v2, .int .i64 v3, .int .i64 v4, .int .i64 v5] : List Value).toArray 43)) := Ext.alloc_ (Ext.refl w) _
  clear hB hG hT h0 h1 h2 h3 h4 h5
  go_enter Tryz.func7, Tryz.ntmps7
  go_upto_region 1 with fail
  change Code.wp _ _ _ _ (w.alloc (.cells ([.int .i64 v0, .int .i64 v1, .int .i64 v2, .int .i64 v3, .int .i64 v4, .int .i64 v5] : List Value).toArray 43))
  generalize w.alloc (.cells ([.int .i64 v0, .int .i64 v1, .int .i64 v2, .int .i64 v3, .int .i64 v4, .int .i64 v5] : List Value).toArray 43) = w1 at *
  have HRG := Lib.hid hb1.range
  go_upto_region 2 with (first
    | (refine wpList_load_mid rfl 43 (.tmp 3) rfl w.heap.size 0 rfl [.int .i64 v0, .int .i64 v1, .int .i64 v2, .int .i64 v3, .int .i64 v4, .int .i64 v5] _ HRG.out Tryz.underlying43 rfl infoG ?_)
    | (go_at_call 17; refine (HGD.out w1).mono ?_; rintro e w2 ⟨rfl, hx2⟩)
    | (refine wpList_store_fresh rfl 45 (.tmp 7) (.tmp 18) rfl (recV r).toArray 45 _ rfl rfl infoR rfl (recs_one r) ?_))
  have hb3 := Box.new w2 45 (recV r)
  have hx3 : Ext w (w2.alloc (.cells (recV r).toArray 45)) := Ext.alloc_ (hx1.trans hx2) _
  generalize w2.alloc (.cells (recV r).toArray 45) = w3 at *
  generalize w2.heap.size = rb at *
  have hr3 : w3.rangeAt rb 0 [.string ⟨r.name.toArray⟩, .string ⟨r.pattern.toArray⟩, .string ⟨r.system.toArray⟩, .string ⟨r.decimal.toArray⟩, .string ⟨r.group.toArray⟩, .string ⟨r.minus.toArray⟩, .string ⟨r.percent.toArray⟩, .string ⟨r.currency.toArray⟩] := hb3.range
  have HR3 := Lib.hid hb3
  have HRR := Lib.hid hr3
  have HX3 := Lib.hid hx3
  have HOF := Lib.hid (of_ r w3)
  have HNW : Hid (∀ W, Ext w3 W → Calls Tryz.prog 18 #[.agg (recV r).toArray] W fun e w' => ∃ g A B C D c d a b, e = .returned (.tuple #[.pointer (some ⟨g, 0, none⟩), .nilIface]) ∧ LocR w' g A B C D c d a b (locOf r p) ∧ Ext W w') := Lib.hid fun W hW =>
    new_ r p W HB.out.pat (by have := HB.out.plen; omega) HB.out.nm HB.out.may (HTW.out.ext (HX3.out.trans hW))
  clear hb1 HRG hx1 hx2 hb3 hx3 hr3 HGD
  go_upto_region 5 with (first
    | (refine wpList_load_mid rfl 45 (.tmp 7) rfl rb 0 rfl _ _ HRR.out Tryz.underlying45 rfl infoR ?_)
    | (go_at_call 19; refine HOF.out.mono ?_; rintro e w4 ⟨rfl, hx4⟩)
    | (go_at_call 18; refine (HNW.out _ hx4).mono ?_; rintro e w5 ⟨g, A, B, C, D, c, d, a, b, rfl, hL, hx5⟩))
  have HL := Lib.hid hL
  have HX5 := Lib.hid (hx4.trans hx5)
  have HLIV : Hid (∀ W, Ext w3 W → Calls Tryz.prog 23 #[] W fun e w' => e = .returned (.bool true) ∧ Ext W w') := Lib.hid fun W hW => lives11 W (HTW.out.ext (HX3.out.trans hW))
  clear hL hx4 hx5 HNW HOF
  obtain ⟨i, hi⟩ : ∃ i : Nat, aroundF x0 13 = (i : Int) := ⟨_, (Int.toNat_of_nonneg (aroundF_bd x0 13 (by omega)).1).symm⟩
  obtain ⟨k, hk⟩ : ∃ k : Nat, aroundF y0 13 = (k : Int) := ⟨_, (Int.toNat_of_nonneg (aroundF_bd y0 13 (by omega)).1).symm⟩
  have hi12 : i ≤ 12 := by have := (aroundF_bd x0 13 (by omega)).2; omega
  have hk12 : k ≤ 12 := by have := (aroundF_bd y0 13 (by omega)).2; omega
  have HA1 : Hid (∀ W, Calls Tryz.prog 24 #[.int .i64 x0, .int .i64 13] W fun e w' => e = .returned (.int .i64 (i : Int)) ∧ W = w') := Lib.hid fun W => by
    have h := around x0 13 W hx0.1 hx0.2 (by omega) (by omega)
    rwa [hi] at h
  have HA2 : Hid (∀ W, Calls Tryz.prog 24 #[.int .i64 y0, .int .i64 13] W fun e w' => e = .returned (.int .i64 (k : Int)) ∧ W = w') := Lib.hid fun W => by
    have h := around y0 13 W hy0.1 hy0.2 (by omega) (by omega)
    rwa [hk] at h
  have hten : (locOf r p).d.length = 10 := digs_len r
  have HDI : Hid (∀ n W, Ext w5 W → Calls Tryz.prog 37 #[.pointer (some ⟨g, 0, none⟩), .int .i64 n] W fun e w' => e = .returned (.string ⟨(digZ (locOf r p) n).toArray⟩) ∧ Ext W w') := Lib.hid fun n W hW => digit_l g A B C D c d a b n (locOf r p) W (HL.out.ext hW) hten
  have HSY : Hid (∀ n : Nat, n ≤ 9 → digZ (locOf r p) (n : Int) = symX r n) := Lib.hid fun n hn => by rw [dig_k HB.out (by omega)]; unfold symX; rw [if_pos hn]
  have HSZ : Hid (∀ W, Ext w5 W → Calls Tryz.prog 38 #[.pointer (some ⟨g, 0, none⟩)] W fun e w' => e = .returned (.tuple #[.int .i64 p.num.prim, .int .i64 p.num.sec]) ∧ Ext W w') := Lib.hid fun W hW => sizes_l g A B C D c d a b (locOf r p) W (HL.out.ext hW)
  have HSI : Hid (∀ (t : List UInt8) W, Ext w5 W → Calls Tryz.prog 33 #[.pointer (some ⟨g, 0, none⟩), .string ⟨t.toArray⟩] W fun e w' => e = .returned (.int .i64 (signZ (locOf r p) ⟨t.toArray⟩)) ∧ Ext W w') := Lib.hid fun t W hW => sign_l g A B C D c d a b ⟨t.toArray⟩ (locOf r p) W (HL.out.ext hW) HB.out.may.b
  have HSP : Hid (∀ (t : List UInt8) W, t.length ≤ 1000000 → Calls Tryz.prog 31 #[.string ⟨t.toArray⟩] W fun e w' => ∃ FE fc, e = .returned (.slice FE (splitS t).length fc) ∧ Ext W w') := Lib.hid fun t W ht => by
    have := split_ref ⟨t.toArray⟩ W (by rw [sizeL]; omega)
    have hd : (⟨t.toArray⟩ : ByteArray).data.toList = t := by simp
    rw [hd] at this
    exact this.mono fun e w' ⟨FE, fc, h1, _, h3⟩ => ⟨FE, fc, h1, h3⟩
  have HNIL : Hid (signZ (locOf r p) ⟨#[]⟩ = -1) := Lib.hid (sign_nil HB.out)
  have HGZ : Hid (p.num.prim ≠ 0 → grpZ (locOf r p) = true) := Lib.hid fun h => by
    have hp := HB.out.prim
    have hlt : 0 < p.num.prim := by omega
    show decide (0 < p.num.prim) = true
    exact decide_eq_true hlt
  have hlen : ∀ n, n ≤ 12 → (symX r n).length ≤ 1000000 := fun n hn => by
    unfold symX
    have h1 := HB.out.may.b.dec
    have h2 := HB.out.may.b.grp
    have h3 := HB.out.may.b.min
    have h4 := Pat.encB_le (zeroZ ⟨r.system.toArray⟩ + (n : Int))
    split
    · omega
    · split
      · have h1' : r.decimal.length ≤ 1000 := h1; omega
      · split
        · have h2' : r.group.length ≤ 1000 := h2; omega
        · have h3' : r.minus.length ≤ 1000 := h3; omega
  have hli := hlen i hi12
  have HR5 := Lib.hid (HR3.out.ext HX5.out)
  have q3 := HR5.out.cell (j := 3) (v := .string ⟨r.decimal.toArray⟩) rfl
  have q4 := HR5.out.cell (j := 4) (v := .string ⟨r.group.toArray⟩) rfl
  have q5 := HR5.out.cell (j := 5) (v := .string ⟨r.minus.toArray⟩) rfl
  clear hten hlen
  go_upto_region 6 with fail
  have hb6 := Box.new w5 9 [.string ⟨r.decimal.toArray⟩, .string ⟨r.group.toArray⟩, .string ⟨r.minus.toArray⟩]
  have hx6 : Ext w5 (w5.alloc (.cells ([.string ⟨r.decimal.toArray⟩, .string ⟨r.group.toArray⟩, .string ⟨r.minus.toArray⟩] : List Value).toArray 9)) := Ext.alloc_ (Ext.refl _) _
  change Code.wp _ _ _ _ (w5.alloc (.cells ([.string ⟨r.decimal.toArray⟩, .string ⟨r.group.toArray⟩, .string ⟨r.minus.toArray⟩] : List Value).toArray 9))
  generalize w5.alloc (.cells ([.string ⟨r.decimal.toArray⟩, .string ⟨r.group.toArray⟩, .string ⟨r.minus.toArray⟩] : List Value).toArray 9) = w6 at *
  generalize w5.heap.size = sb at *
  have HCE : Hid (∀ (n : Nat) W, 9 < n → n ≤ 12 → Ext w6 W → W.cell? ⟨sb, n - 10, none⟩ = some (.string ⟨(symX r n).toArray⟩)) := Lib.hid fun n W h1 h2 hW => by
    have hbw := hb6.ext hW
    rcases (by omega : n = 10 ∨ n = 11 ∨ n = 12) with rfl | rfl | rfl
    · exact hbw.cell (j := 0) rfl
    · exact hbw.cell (j := 1) rfl
    · exact hbw.cell (j := 2) rfl
  have HX6 := Lib.hid hx6
  clear hb6 hx6 q3 q4 q5 HR5
  have HSS : Hid (p.num.prim ≠ 0 ∨ (i ≠ 11 ∧ k ≠ 11) → signZ (locOf r p) ⟨(symX r i).toArray⟩ = i ∧ signZ (locOf r p) ⟨(symX r k).toArray⟩ = k ∧ (splitS (symX r i)).length = 1) := Lib.hid fun h =>
    ⟨sign_sym HB.out hi12 (fun e => HGZ.out (by omega)), sign_sym HB.out hk12 (fun e => HGZ.out (by omega)), (one_sym HB.out hi12 (fun e => HGZ.out (by omega))).1⟩
  have HXI := Lib.hid (HSY.out i)
  have HXK := Lib.hid (HSY.out k)
  have HCI := Lib.hid (HCE.out i)
  have HCK := Lib.hid (HCE.out k)
  have HDI1 := Lib.hid (HDI.out (i : Int))
  have HDK1 := Lib.hid (HDI.out (k : Int))
  have HSI1 := Lib.hid (HSI.out (symX r i))
  have HSK1 := Lib.hid (HSI.out (symX r k))
  have HS0 : Hid (∀ W, Ext w5 W → Calls Tryz.prog 33 #[.pointer (some ⟨g, 0, none⟩), .string ⟨#[]⟩] W fun e w' => e = .returned (.int .i64 (-1)) ∧ Ext W w') := Lib.hid fun W hW => by
    have h := HSI.out [] W hW
    have e : (⟨([] : List UInt8).toArray⟩ : ByteArray) = ⟨#[]⟩ := rfl
    rw [e, HNIL.out] at h; exact h
  have HSP1 : Hid (∀ W, Calls Tryz.prog 31 #[.string ⟨(symX r i).toArray⟩] W fun e w' => ∃ FE fc, e = .returned (.slice FE (splitS (symX r i)).length fc) ∧ Ext W w') := Lib.hid fun W => HSP.out (symX r i) W hli
  clear HDI HSY HCE HSI HSP HNIL hli HRR HR3
  have hbq := beq_strL ⟨(symX r i).toArray⟩ ⟨(symX r k).toArray⟩
  have hd1 : (⟨(symX r i).toArray⟩ : ByteArray).data.toList = symX r i := by simp
  have hd2 : (⟨(symX r k).toArray⟩ : ByteArray).data.toList = symX r k := by simp
  rw [hd1, hd2] at hbq
  have HEQ : Hid (p.num.prim ≠ 0 ∨ (i ≠ 11 ∧ k ≠ 11) → decide (symX r i = symX r k) = ((i : Int) == (k : Int))) := Lib.hid fun h => by
    obtain ⟨e1, e2, _⟩ := HSS.out h
    by_cases hik : i = k
    · subst hik; simp
    · have hne : symX r i ≠ symX r k := fun e => by rw [e, e2] at e1; omega
      rw [decide_eq_false hne]
      have : ((i : Int) == (k : Int)) = false := by simpa using (by omega : (i : Int) ≠ (k : Int))
      rw [this]
  clear hd1 hd2
  generalize signZ (locOf r p) ⟨(symX r i).toArray⟩ = s1 at *
  generalize signZ (locOf r p) ⟨(symX r k).toArray⟩ = s2 at *
  generalize (splitS (symX r i)).length = m1 at *
  generalize hX : symX r i = X at *
  generalize hY : symX r k = Y at *
  generalize digZ (locOf r p) (i : Int) = DI at *
  generalize digZ (locOf r p) (k : Int) = DK at *
  generalize p.num.prim = pr at *
  generalize p.num.sec = se at *
  clear hX hY
  have HI12 := Lib.hid hi12
  have HK12 := Lib.hid hk12
  have v1 : IntKind.i64.wrap ((i : Int) - 10) = (i : Int) - 10 := by rw [IntKind.wrap_i64]; omega
  have v2 : IntKind.i64.wrap ((k : Int) - 10) = (k : Int) - 10 := by rw [IntKind.wrap_i64]; omega
  rcases (by omega : (pr = 0 ∧ i = 11) ∨ (pr = 0 ∧ i ≠ 11 ∧ k = 11) ∨ pr ≠ 0 ∨ (pr = 0 ∧ i ≠ 11 ∧ k ≠ 11)) with ⟨z0, z1⟩ | ⟨z0, z1, z2⟩ | z0 | ⟨z0, z1, z2⟩
  · have y1 : (pr == 0) = true := by simp [z0]
    have y2 : ((i : Int) == 11) = true := by simp; omega
    rcases (by omega : i ≤ 9 ∨ 9 < i) with a1 | a1 <;> rcases (by omega : k ≤ 9 ∨ 9 < k) with a2 | a2
    · exfalso; omega
    · exfalso; omega
    · have f1 : (i : Int) > 9 := by omega
      have f2 : ¬ ((k : Int) > 9) := by omega
      have e2 := HXK.out a2
      subst e2
      have g2 : (0 : Int) ≤ (i : Int) - 10 := by omega
      have g3 : (i : Int) - 10 < 3 := by omega
      have g4 : ((i : Int) - 10).toNat = i - 10 := by omega
      (try clear z0)
      (try clear z1)
      (try clear z2)
      have hE := Ext.refl w6
      go_wp2_with (first
        | (go_at_call 24; with_reducible refine (HA1.out _).mono ?_; rintro e w7 ⟨rfl, rfl⟩)
        | (go_at_call 24; with_reducible refine (HA2.out _).mono ?_; rintro e w7 ⟨rfl, rfl⟩)
        | (go_at_call 37; with_reducible refine (HDI1.out _ ?_).mono ?_; exact HX6.out.trans hE; rintro e w7 ⟨rfl, hx7⟩; have hE := hE.trans hx7; (try have hcI := HCI.out _ a1 HI12.out hE); (try have hcK := HCK.out _ a2 HK12.out hE))
        | (go_at_call 37; with_reducible refine (HDK1.out _ ?_).mono ?_; exact HX6.out.trans hE; rintro e w7 ⟨rfl, hx7⟩; have hE := hE.trans hx7; (try have hcI := HCI.out _ a1 HI12.out hE); (try have hcK := HCK.out _ a2 HK12.out hE))
        | (go_at_call 38; with_reducible refine (HSZ.out _ ?_).mono ?_; exact HX6.out.trans hE; rintro e w7 ⟨rfl, hx7⟩; have hE := hE.trans hx7; (try have hcI := HCI.out _ a1 HI12.out hE); (try have hcK := HCK.out _ a2 HK12.out hE))
        | (go_at_call 33; with_reducible refine (HS0.out _ ?_).mono ?_; exact HX6.out.trans hE; rintro e w7 ⟨rfl, hx7⟩; have hE := hE.trans hx7; (try have hcI := HCI.out _ a1 HI12.out hE); (try have hcK := HCK.out _ a2 HK12.out hE))
        | (go_at_call 33; with_reducible refine (HSI1.out _ ?_).mono ?_; exact HX6.out.trans hE; rintro e w7 ⟨rfl, hx7⟩; have hE := hE.trans hx7; (try have hcI := HCI.out _ a1 HI12.out hE); (try have hcK := HCK.out _ a2 HK12.out hE))
        | (go_at_call 33; with_reducible refine (HSK1.out _ ?_).mono ?_; exact HX6.out.trans hE; rintro e w7 ⟨rfl, hx7⟩; have hE := hE.trans hx7; (try have hcI := HCI.out _ a1 HI12.out hE); (try have hcK := HCK.out _ a2 HK12.out hE))
        | (go_at_call 31; with_reducible refine (HSP1.out _).mono ?_; rintro e w7 ⟨FE, fc, rfl, hx7⟩; have hE := hE.trans hx7; (try have hcI := HCI.out _ a1 HI12.out hE); (try have hcK := HCK.out _ a2 HK12.out hE))
        | (go_at_call 23; with_reducible refine (HLIV.out _ ?_).mono ?_; exact HX5.out.trans (HX6.out.trans hE); rintro e w7 ⟨rfl, hx7⟩; have hE := hE.trans hx7; (try have hcI := HCI.out _ a1 HI12.out hE); (try have hcK := HCK.out _ a2 HK12.out hE)))
      go_ret
      exact ⟨rfl, HX3.out.trans (HX5.out.trans (HX6.out.trans hE))⟩
    · have f1 : (i : Int) > 9 := by omega
      have f2 : (k : Int) > 9 := by omega
      have g2 : (0 : Int) ≤ (i : Int) - 10 := by omega
      have g3 : (i : Int) - 10 < 3 := by omega
      have g4 : ((i : Int) - 10).toNat = i - 10 := by omega
      have h2 : (0 : Int) ≤ (k : Int) - 10 := by omega
      have h3 : (k : Int) - 10 < 3 := by omega
      have h4 : ((k : Int) - 10).toNat = k - 10 := by omega
      (try clear z0)
      (try clear z1)
      (try clear z2)
      have hE := Ext.refl w6
      go_wp2_with (first
        | (go_at_call 24; with_reducible refine (HA1.out _).mono ?_; rintro e w7 ⟨rfl, rfl⟩)
        | (go_at_call 24; with_reducible refine (HA2.out _).mono ?_; rintro e w7 ⟨rfl, rfl⟩)
        | (go_at_call 37; with_reducible refine (HDI1.out _ ?_).mono ?_; exact HX6.out.trans hE; rintro e w7 ⟨rfl, hx7⟩; have hE := hE.trans hx7; (try have hcI := HCI.out _ a1 HI12.out hE); (try have hcK := HCK.out _ a2 HK12.out hE))
        | (go_at_call 37; with_reducible refine (HDK1.out _ ?_).mono ?_; exact HX6.out.trans hE; rintro e w7 ⟨rfl, hx7⟩; have hE := hE.trans hx7; (try have hcI := HCI.out _ a1 HI12.out hE); (try have hcK := HCK.out _ a2 HK12.out hE))
        | (go_at_call 38; with_reducible refine (HSZ.out _ ?_).mono ?_; exact HX6.out.trans hE; rintro e w7 ⟨rfl, hx7⟩; have hE := hE.trans hx7; (try have hcI := HCI.out _ a1 HI12.out hE); (try have hcK := HCK.out _ a2 HK12.out hE))
        | (go_at_call 33; with_reducible refine (HS0.out _ ?_).mono ?_; exact HX6.out.trans hE; rintro e w7 ⟨rfl, hx7⟩; have hE := hE.trans hx7; (try have hcI := HCI.out _ a1 HI12.out hE); (try have hcK := HCK.out _ a2 HK12.out hE))
        | (go_at_call 33; with_reducible refine (HSI1.out _ ?_).mono ?_; exact HX6.out.trans hE; rintro e w7 ⟨rfl, hx7⟩; have hE := hE.trans hx7; (try have hcI := HCI.out _ a1 HI12.out hE); (try have hcK := HCK.out _ a2 HK12.out hE))
        | (go_at_call 33; with_reducible refine (HSK1.out _ ?_).mono ?_; exact HX6.out.trans hE; rintro e w7 ⟨rfl, hx7⟩; have hE := hE.trans hx7; (try have hcI := HCI.out _ a1 HI12.out hE); (try have hcK := HCK.out _ a2 HK12.out hE))
        | (go_at_call 31; with_reducible refine (HSP1.out _).mono ?_; rintro e w7 ⟨FE, fc, rfl, hx7⟩; have hE := hE.trans hx7; (try have hcI := HCI.out _ a1 HI12.out hE); (try have hcK := HCK.out _ a2 HK12.out hE))
        | (go_at_call 23; with_reducible refine (HLIV.out _ ?_).mono ?_; exact HX5.out.trans (HX6.out.trans hE); rintro e w7 ⟨rfl, hx7⟩; have hE := hE.trans hx7; (try have hcI := HCI.out _ a1 HI12.out hE); (try have hcK := HCK.out _ a2 HK12.out hE)))
      go_ret
      exact ⟨rfl, HX3.out.trans (HX5.out.trans (HX6.out.trans hE))⟩
  · have y1 : (pr == 0) = true := by simp [z0]
    have y2 : ((i : Int) == 11) = false := by simp; omega
    have y3 : ((k : Int) == 11) = true := by simp; omega
    rcases (by omega : i ≤ 9 ∨ 9 < i) with a1 | a1 <;> rcases (by omega : k ≤ 9 ∨ 9 < k) with a2 | a2
    · exfalso; omega
    · have f1 : ¬ ((i : Int) > 9) := by omega
      have f2 : (k : Int) > 9 := by omega
      have e1 := HXI.out a1
      subst e1
      have g2 : (0 : Int) ≤ (k : Int) - 10 := by omega
      have g3 : (k : Int) - 10 < 3 := by omega
      have g4 : ((k : Int) - 10).toNat = k - 10 := by omega
      (try clear z0)
      (try clear z1)
      (try clear z2)
      have hE := Ext.refl w6
      go_wp2_with (first
        | (go_at_call 24; with_reducible refine (HA1.out _).mono ?_; rintro e w7 ⟨rfl, rfl⟩)
        | (go_at_call 24; with_reducible refine (HA2.out _).mono ?_; rintro e w7 ⟨rfl, rfl⟩)
        | (go_at_call 37; with_reducible refine (HDI1.out _ ?_).mono ?_; exact HX6.out.trans hE; rintro e w7 ⟨rfl, hx7⟩; have hE := hE.trans hx7; (try have hcI := HCI.out _ a1 HI12.out hE); (try have hcK := HCK.out _ a2 HK12.out hE))
        | (go_at_call 37; with_reducible refine (HDK1.out _ ?_).mono ?_; exact HX6.out.trans hE; rintro e w7 ⟨rfl, hx7⟩; have hE := hE.trans hx7; (try have hcI := HCI.out _ a1 HI12.out hE); (try have hcK := HCK.out _ a2 HK12.out hE))
        | (go_at_call 38; with_reducible refine (HSZ.out _ ?_).mono ?_; exact HX6.out.trans hE; rintro e w7 ⟨rfl, hx7⟩; have hE := hE.trans hx7; (try have hcI := HCI.out _ a1 HI12.out hE); (try have hcK := HCK.out _ a2 HK12.out hE))
        | (go_at_call 33; with_reducible refine (HS0.out _ ?_).mono ?_; exact HX6.out.trans hE; rintro e w7 ⟨rfl, hx7⟩; have hE := hE.trans hx7; (try have hcI := HCI.out _ a1 HI12.out hE); (try have hcK := HCK.out _ a2 HK12.out hE))
        | (go_at_call 33; with_reducible refine (HSI1.out _ ?_).mono ?_; exact HX6.out.trans hE; rintro e w7 ⟨rfl, hx7⟩; have hE := hE.trans hx7; (try have hcI := HCI.out _ a1 HI12.out hE); (try have hcK := HCK.out _ a2 HK12.out hE))
        | (go_at_call 33; with_reducible refine (HSK1.out _ ?_).mono ?_; exact HX6.out.trans hE; rintro e w7 ⟨rfl, hx7⟩; have hE := hE.trans hx7; (try have hcI := HCI.out _ a1 HI12.out hE); (try have hcK := HCK.out _ a2 HK12.out hE))
        | (go_at_call 31; with_reducible refine (HSP1.out _).mono ?_; rintro e w7 ⟨FE, fc, rfl, hx7⟩; have hE := hE.trans hx7; (try have hcI := HCI.out _ a1 HI12.out hE); (try have hcK := HCK.out _ a2 HK12.out hE))
        | (go_at_call 23; with_reducible refine (HLIV.out _ ?_).mono ?_; exact HX5.out.trans (HX6.out.trans hE); rintro e w7 ⟨rfl, hx7⟩; have hE := hE.trans hx7; (try have hcI := HCI.out _ a1 HI12.out hE); (try have hcK := HCK.out _ a2 HK12.out hE)))
      go_ret
      exact ⟨rfl, HX3.out.trans (HX5.out.trans (HX6.out.trans hE))⟩
    · exfalso; omega
    · have f1 : (i : Int) > 9 := by omega
      have f2 : (k : Int) > 9 := by omega
      have g2 : (0 : Int) ≤ (i : Int) - 10 := by omega
      have g3 : (i : Int) - 10 < 3 := by omega
      have g4 : ((i : Int) - 10).toNat = i - 10 := by omega
      have h2 : (0 : Int) ≤ (k : Int) - 10 := by omega
      have h3 : (k : Int) - 10 < 3 := by omega
      have h4 : ((k : Int) - 10).toNat = k - 10 := by omega
      (try clear z0)
      (try clear z1)
      (try clear z2)
      have hE := Ext.refl w6
      go_wp2_with (first
        | (go_at_call 24; with_reducible refine (HA1.out _).mono ?_; rintro e w7 ⟨rfl, rfl⟩)
        | (go_at_call 24; with_reducible refine (HA2.out _).mono ?_; rintro e w7 ⟨rfl, rfl⟩)
        | (go_at_call 37; with_reducible refine (HDI1.out _ ?_).mono ?_; exact HX6.out.trans hE; rintro e w7 ⟨rfl, hx7⟩; have hE := hE.trans hx7; (try have hcI := HCI.out _ a1 HI12.out hE); (try have hcK := HCK.out _ a2 HK12.out hE))
        | (go_at_call 37; with_reducible refine (HDK1.out _ ?_).mono ?_; exact HX6.out.trans hE; rintro e w7 ⟨rfl, hx7⟩; have hE := hE.trans hx7; (try have hcI := HCI.out _ a1 HI12.out hE); (try have hcK := HCK.out _ a2 HK12.out hE))
        | (go_at_call 38; with_reducible refine (HSZ.out _ ?_).mono ?_; exact HX6.out.trans hE; rintro e w7 ⟨rfl, hx7⟩; have hE := hE.trans hx7; (try have hcI := HCI.out _ a1 HI12.out hE); (try have hcK := HCK.out _ a2 HK12.out hE))
        | (go_at_call 33; with_reducible refine (HS0.out _ ?_).mono ?_; exact HX6.out.trans hE; rintro e w7 ⟨rfl, hx7⟩; have hE := hE.trans hx7; (try have hcI := HCI.out _ a1 HI12.out hE); (try have hcK := HCK.out _ a2 HK12.out hE))
        | (go_at_call 33; with_reducible refine (HSI1.out _ ?_).mono ?_; exact HX6.out.trans hE; rintro e w7 ⟨rfl, hx7⟩; have hE := hE.trans hx7; (try have hcI := HCI.out _ a1 HI12.out hE); (try have hcK := HCK.out _ a2 HK12.out hE))
        | (go_at_call 33; with_reducible refine (HSK1.out _ ?_).mono ?_; exact HX6.out.trans hE; rintro e w7 ⟨rfl, hx7⟩; have hE := hE.trans hx7; (try have hcI := HCI.out _ a1 HI12.out hE); (try have hcK := HCK.out _ a2 HK12.out hE))
        | (go_at_call 31; with_reducible refine (HSP1.out _).mono ?_; rintro e w7 ⟨FE, fc, rfl, hx7⟩; have hE := hE.trans hx7; (try have hcI := HCI.out _ a1 HI12.out hE); (try have hcK := HCK.out _ a2 HK12.out hE))
        | (go_at_call 23; with_reducible refine (HLIV.out _ ?_).mono ?_; exact HX5.out.trans (HX6.out.trans hE); rintro e w7 ⟨rfl, hx7⟩; have hE := hE.trans hx7; (try have hcI := HCI.out _ a1 HI12.out hE); (try have hcK := HCK.out _ a2 HK12.out hE)))
      go_ret
      exact ⟨rfl, HX3.out.trans (HX5.out.trans (HX6.out.trans hE))⟩
  · have y1 : (pr == 0) = false := by simp [z0]
    obtain ⟨u1, u2, u3⟩ := HSS.out (.inl z0)
    have ueq := HEQ.out (.inl z0)
    have hbl : (X == Y) = ((i : Int) == (k : Int)) := by rw [← ueq, Bool.eq_iff_iff]; simp
    rcases (by omega : i ≤ 9 ∨ 9 < i) with a1 | a1 <;> rcases (by omega : k ≤ 9 ∨ 9 < k) with a2 | a2
    · have f1 : ¬ ((i : Int) > 9) := by omega
      have f2 : ¬ ((k : Int) > 9) := by omega
      have e1 := HXI.out a1
      have e2 := HXK.out a2
      subst e1; subst e2
      (try clear z0)
      (try clear z1)
      (try clear z2)
      have hE := Ext.refl w6
      go_wp2_with (first
        | (go_at_call 24; with_reducible refine (HA1.out _).mono ?_; rintro e w7 ⟨rfl, rfl⟩)
        | (go_at_call 24; with_reducible refine (HA2.out _).mono ?_; rintro e w7 ⟨rfl, rfl⟩)
        | (go_at_call 37; with_reducible refine (HDI1.out _ ?_).mono ?_; exact HX6.out.trans hE; rintro e w7 ⟨rfl, hx7⟩; have hE := hE.trans hx7; (try have hcI := HCI.out _ a1 HI12.out hE); (try have hcK := HCK.out _ a2 HK12.out hE))
        | (go_at_call 37; with_reducible refine (HDK1.out _ ?_).mono ?_; exact HX6.out.trans hE; rintro e w7 ⟨rfl, hx7⟩; have hE := hE.trans hx7; (try have hcI := HCI.out _ a1 HI12.out hE); (try have hcK := HCK.out _ a2 HK12.out hE))
        | (go_at_call 38; with_reducible refine (HSZ.out _ ?_).mono ?_; exact HX6.out.trans hE; rintro e w7 ⟨rfl, hx7⟩; have hE := hE.trans hx7; (try have hcI := HCI.out _ a1 HI12.out hE); (try have hcK := HCK.out _ a2 HK12.out hE))
        | (go_at_call 33; with_reducible refine (HS0.out _ ?_).mono ?_; exact HX6.out.trans hE; rintro e w7 ⟨rfl, hx7⟩; have hE := hE.trans hx7; (try have hcI := HCI.out _ a1 HI12.out hE); (try have hcK := HCK.out _ a2 HK12.out hE))
        | (go_at_call 33; with_reducible refine (HSI1.out _ ?_).mono ?_; exact HX6.out.trans hE; rintro e w7 ⟨rfl, hx7⟩; have hE := hE.trans hx7; (try have hcI := HCI.out _ a1 HI12.out hE); (try have hcK := HCK.out _ a2 HK12.out hE))
        | (go_at_call 33; with_reducible refine (HSK1.out _ ?_).mono ?_; exact HX6.out.trans hE; rintro e w7 ⟨rfl, hx7⟩; have hE := hE.trans hx7; (try have hcI := HCI.out _ a1 HI12.out hE); (try have hcK := HCK.out _ a2 HK12.out hE))
        | (go_at_call 31; with_reducible refine (HSP1.out _).mono ?_; rintro e w7 ⟨FE, fc, rfl, hx7⟩; have hE := hE.trans hx7; (try have hcI := HCI.out _ a1 HI12.out hE); (try have hcK := HCK.out _ a2 HK12.out hE))
        | (go_at_call 23; with_reducible refine (HLIV.out _ ?_).mono ?_; exact HX5.out.trans (HX6.out.trans hE); rintro e w7 ⟨rfl, hx7⟩; have hE := hE.trans hx7; (try have hcI := HCI.out _ a1 HI12.out hE); (try have hcK := HCK.out _ a2 HK12.out hE)))
      go_ret
      exact ⟨rfl, HX3.out.trans (HX5.out.trans (HX6.out.trans hE))⟩
    · have f1 : ¬ ((i : Int) > 9) := by omega
      have f2 : (k : Int) > 9 := by omega
      have e1 := HXI.out a1
      subst e1
      have g2 : (0 : Int) ≤ (k : Int) - 10 := by omega
      have g3 : (k : Int) - 10 < 3 := by omega
      have g4 : ((k : Int) - 10).toNat = k - 10 := by omega
      (try clear z0)
      (try clear z1)
      (try clear z2)
      have hE := Ext.refl w6
      go_wp2_with (first
        | (go_at_call 24; with_reducible refine (HA1.out _).mono ?_; rintro e w7 ⟨rfl, rfl⟩)
        | (go_at_call 24; with_reducible refine (HA2.out _).mono ?_; rintro e w7 ⟨rfl, rfl⟩)
        | (go_at_call 37; with_reducible refine (HDI1.out _ ?_).mono ?_; exact HX6.out.trans hE; rintro e w7 ⟨rfl, hx7⟩; have hE := hE.trans hx7; (try have hcI := HCI.out _ a1 HI12.out hE); (try have hcK := HCK.out _ a2 HK12.out hE))
        | (go_at_call 37; with_reducible refine (HDK1.out _ ?_).mono ?_; exact HX6.out.trans hE; rintro e w7 ⟨rfl, hx7⟩; have hE := hE.trans hx7; (try have hcI := HCI.out _ a1 HI12.out hE); (try have hcK := HCK.out _ a2 HK12.out hE))
        | (go_at_call 38; with_reducible refine (HSZ.out _ ?_).mono ?_; exact HX6.out.trans hE; rintro e w7 ⟨rfl, hx7⟩; have hE := hE.trans hx7; (try have hcI := HCI.out _ a1 HI12.out hE); (try have hcK := HCK.out _ a2 HK12.out hE))
        | (go_at_call 33; with_reducible refine (HS0.out _ ?_).mono ?_; exact HX6.out.trans hE; rintro e w7 ⟨rfl, hx7⟩; have hE := hE.trans hx7; (try have hcI := HCI.out _ a1 HI12.out hE); (try have hcK := HCK.out _ a2 HK12.out hE))
        | (go_at_call 33; with_reducible refine (HSI1.out _ ?_).mono ?_; exact HX6.out.trans hE; rintro e w7 ⟨rfl, hx7⟩; have hE := hE.trans hx7; (try have hcI := HCI.out _ a1 HI12.out hE); (try have hcK := HCK.out _ a2 HK12.out hE))
        | (go_at_call 33; with_reducible refine (HSK1.out _ ?_).mono ?_; exact HX6.out.trans hE; rintro e w7 ⟨rfl, hx7⟩; have hE := hE.trans hx7; (try have hcI := HCI.out _ a1 HI12.out hE); (try have hcK := HCK.out _ a2 HK12.out hE))
        | (go_at_call 31; with_reducible refine (HSP1.out _).mono ?_; rintro e w7 ⟨FE, fc, rfl, hx7⟩; have hE := hE.trans hx7; (try have hcI := HCI.out _ a1 HI12.out hE); (try have hcK := HCK.out _ a2 HK12.out hE))
        | (go_at_call 23; with_reducible refine (HLIV.out _ ?_).mono ?_; exact HX5.out.trans (HX6.out.trans hE); rintro e w7 ⟨rfl, hx7⟩; have hE := hE.trans hx7; (try have hcI := HCI.out _ a1 HI12.out hE); (try have hcK := HCK.out _ a2 HK12.out hE)))
      go_ret
      exact ⟨rfl, HX3.out.trans (HX5.out.trans (HX6.out.trans hE))⟩
    · have f1 : (i : Int) > 9 := by omega
      have f2 : ¬ ((k : Int) > 9) := by omega
      have e2 := HXK.out a2
      subst e2
      have g2 : (0 : Int) ≤ (i : Int) - 10 := by omega
      have g3 : (i : Int) - 10 < 3 := by omega
      have g4 : ((i : Int) - 10).toNat = i - 10 := by omega
      (try clear z0)
      (try clear z1)
      (try clear z2)
      have hE := Ext.refl w6
      go_wp2_with (first
        | (go_at_call 24; with_reducible refine (HA1.out _).mono ?_; rintro e w7 ⟨rfl, rfl⟩)
        | (go_at_call 24; with_reducible refine (HA2.out _).mono ?_; rintro e w7 ⟨rfl, rfl⟩)
        | (go_at_call 37; with_reducible refine (HDI1.out _ ?_).mono ?_; exact HX6.out.trans hE; rintro e w7 ⟨rfl, hx7⟩; have hE := hE.trans hx7; (try have hcI := HCI.out _ a1 HI12.out hE); (try have hcK := HCK.out _ a2 HK12.out hE))
        | (go_at_call 37; with_reducible refine (HDK1.out _ ?_).mono ?_; exact HX6.out.trans hE; rintro e w7 ⟨rfl, hx7⟩; have hE := hE.trans hx7; (try have hcI := HCI.out _ a1 HI12.out hE); (try have hcK := HCK.out _ a2 HK12.out hE))
        | (go_at_call 38; with_reducible refine (HSZ.out _ ?_).mono ?_; exact HX6.out.trans hE; rintro e w7 ⟨rfl, hx7⟩; have hE := hE.trans hx7; (try have hcI := HCI.out _ a1 HI12.out hE); (try have hcK := HCK.out _ a2 HK12.out hE))
        | (go_at_call 33; with_reducible refine (HS0.out _ ?_).mono ?_; exact HX6.out.trans hE; rintro e w7 ⟨rfl, hx7⟩; have hE := hE.trans hx7; (try have hcI := HCI.out _ a1 HI12.out hE); (try have hcK := HCK.out _ a2 HK12.out hE))
        | (go_at_call 33; with_reducible refine (HSI1.out _ ?_).mono ?_; exact HX6.out.trans hE; rintro e w7 ⟨rfl, hx7⟩; have hE := hE.trans hx7; (try have hcI := HCI.out _ a1 HI12.out hE); (try have hcK := HCK.out _ a2 HK12.out hE))
        | (go_at_call 33; with_reducible refine (HSK1.out _ ?_).mono ?_; exact HX6.out.trans hE; rintro e w7 ⟨rfl, hx7⟩; have hE := hE.trans hx7; (try have hcI := HCI.out _ a1 HI12.out hE); (try have hcK := HCK.out _ a2 HK12.out hE))
        | (go_at_call 31; with_reducible refine (HSP1.out _).mono ?_; rintro e w7 ⟨FE, fc, rfl, hx7⟩; have hE := hE.trans hx7; (try have hcI := HCI.out _ a1 HI12.out hE); (try have hcK := HCK.out _ a2 HK12.out hE))
        | (go_at_call 23; with_reducible refine (HLIV.out _ ?_).mono ?_; exact HX5.out.trans (HX6.out.trans hE); rintro e w7 ⟨rfl, hx7⟩; have hE := hE.trans hx7; (try have hcI := HCI.out _ a1 HI12.out hE); (try have hcK := HCK.out _ a2 HK12.out hE)))
      go_ret
      exact ⟨rfl, HX3.out.trans (HX5.out.trans (HX6.out.trans hE))⟩
    · have f1 : (i : Int) > 9 := by omega
      have f2 : (k : Int) > 9 := by omega
      have g2 : (0 : Int) ≤ (i : Int) - 10 := by omega
      have g3 : (i : Int) - 10 < 3 := by omega
      have g4 : ((i : Int) - 10).toNat = i - 10 := by omega
      have h2 : (0 : Int) ≤ (k : Int) - 10 := by omega
      have h3 : (k : Int) - 10 < 3 := by omega
      have h4 : ((k : Int) - 10).toNat = k - 10 := by omega
      (try clear z0)
      (try clear z1)
      (try clear z2)
      have hE := Ext.refl w6
      go_wp2_with (first
        | (go_at_call 24; with_reducible refine (HA1.out _).mono ?_; rintro e w7 ⟨rfl, rfl⟩)
        | (go_at_call 24; with_reducible refine (HA2.out _).mono ?_; rintro e w7 ⟨rfl, rfl⟩)
        | (go_at_call 37; with_reducible refine (HDI1.out _ ?_).mono ?_; exact HX6.out.trans hE; rintro e w7 ⟨rfl, hx7⟩; have hE := hE.trans hx7; (try have hcI := HCI.out _ a1 HI12.out hE); (try have hcK := HCK.out _ a2 HK12.out hE))
        | (go_at_call 37; with_reducible refine (HDK1.out _ ?_).mono ?_; exact HX6.out.trans hE; rintro e w7 ⟨rfl, hx7⟩; have hE := hE.trans hx7; (try have hcI := HCI.out _ a1 HI12.out hE); (try have hcK := HCK.out _ a2 HK12.out hE))
        | (go_at_call 38; with_reducible refine (HSZ.out _ ?_).mono ?_; exact HX6.out.trans hE; rintro e w7 ⟨rfl, hx7⟩; have hE := hE.trans hx7; (try have hcI := HCI.out _ a1 HI12.out hE); (try have hcK := HCK.out _ a2 HK12.out hE))
        | (go_at_call 33; with_reducible refine (HS0.out _ ?_).mono ?_; exact HX6.out.trans hE; rintro e w7 ⟨rfl, hx7⟩; have hE := hE.trans hx7; (try have hcI := HCI.out _ a1 HI12.out hE); (try have hcK := HCK.out _ a2 HK12.out hE))
        | (go_at_call 33; with_reducible refine (HSI1.out _ ?_).mono ?_; exact HX6.out.trans hE; rintro e w7 ⟨rfl, hx7⟩; have hE := hE.trans hx7; (try have hcI := HCI.out _ a1 HI12.out hE); (try have hcK := HCK.out _ a2 HK12.out hE))
        | (go_at_call 33; with_reducible refine (HSK1.out _ ?_).mono ?_; exact HX6.out.trans hE; rintro e w7 ⟨rfl, hx7⟩; have hE := hE.trans hx7; (try have hcI := HCI.out _ a1 HI12.out hE); (try have hcK := HCK.out _ a2 HK12.out hE))
        | (go_at_call 31; with_reducible refine (HSP1.out _).mono ?_; rintro e w7 ⟨FE, fc, rfl, hx7⟩; have hE := hE.trans hx7; (try have hcI := HCI.out _ a1 HI12.out hE); (try have hcK := HCK.out _ a2 HK12.out hE))
        | (go_at_call 23; with_reducible refine (HLIV.out _ ?_).mono ?_; exact HX5.out.trans (HX6.out.trans hE); rintro e w7 ⟨rfl, hx7⟩; have hE := hE.trans hx7; (try have hcI := HCI.out _ a1 HI12.out hE); (try have hcK := HCK.out _ a2 HK12.out hE)))
      go_ret
      exact ⟨rfl, HX3.out.trans (HX5.out.trans (HX6.out.trans hE))⟩
  · have y1 : (pr == 0) = true := by simp [z0]
    have y2 : ((i : Int) == 11) = false := by simp; omega
    have y3 : ((k : Int) == 11) = false := by simp; omega
    obtain ⟨u1, u2, u3⟩ := HSS.out (.inr ⟨z1, z2⟩)
    have ueq := HEQ.out (.inr ⟨z1, z2⟩)
    have hbl : (X == Y) = ((i : Int) == (k : Int)) := by rw [← ueq, Bool.eq_iff_iff]; simp
    rcases (by omega : i ≤ 9 ∨ 9 < i) with a1 | a1 <;> rcases (by omega : k ≤ 9 ∨ 9 < k) with a2 | a2
    · have f1 : ¬ ((i : Int) > 9) := by omega
      have f2 : ¬ ((k : Int) > 9) := by omega
      have e1 := HXI.out a1
      have e2 := HXK.out a2
      subst e1; subst e2
      (try clear z0)
      (try clear z1)
      (try clear z2)
      have hE := Ext.refl w6
      go_wp2_with (first
        | (go_at_call 24; with_reducible refine (HA1.out _).mono ?_; rintro e w7 ⟨rfl, rfl⟩)
        | (go_at_call 24; with_reducible refine (HA2.out _).mono ?_; rintro e w7 ⟨rfl, rfl⟩)
        | (go_at_call 37; with_reducible refine (HDI1.out _ ?_).mono ?_; exact HX6.out.trans hE; rintro e w7 ⟨rfl, hx7⟩; have hE := hE.trans hx7; (try have hcI := HCI.out _ a1 HI12.out hE); (try have hcK := HCK.out _ a2 HK12.out hE))
        | (go_at_call 37; with_reducible refine (HDK1.out _ ?_).mono ?_; exact HX6.out.trans hE; rintro e w7 ⟨rfl, hx7⟩; have hE := hE.trans hx7; (try have hcI := HCI.out _ a1 HI12.out hE); (try have hcK := HCK.out _ a2 HK12.out hE))
        | (go_at_call 38; with_reducible refine (HSZ.out _ ?_).mono ?_; exact HX6.out.trans hE; rintro e w7 ⟨rfl, hx7⟩; have hE := hE.trans hx7; (try have hcI := HCI.out _ a1 HI12.out hE); (try have hcK := HCK.out _ a2 HK12.out hE))
        | (go_at_call 33; with_reducible refine (HS0.out _ ?_).mono ?_; exact HX6.out.trans hE; rintro e w7 ⟨rfl, hx7⟩; have hE := hE.trans hx7; (try have hcI := HCI.out _ a1 HI12.out hE); (try have hcK := HCK.out _ a2 HK12.out hE))
        | (go_at_call 33; with_reducible refine (HSI1.out _ ?_).mono ?_; exact HX6.out.trans hE; rintro e w7 ⟨rfl, hx7⟩; have hE := hE.trans hx7; (try have hcI := HCI.out _ a1 HI12.out hE); (try have hcK := HCK.out _ a2 HK12.out hE))
        | (go_at_call 33; with_reducible refine (HSK1.out _ ?_).mono ?_; exact HX6.out.trans hE; rintro e w7 ⟨rfl, hx7⟩; have hE := hE.trans hx7; (try have hcI := HCI.out _ a1 HI12.out hE); (try have hcK := HCK.out _ a2 HK12.out hE))
        | (go_at_call 31; with_reducible refine (HSP1.out _).mono ?_; rintro e w7 ⟨FE, fc, rfl, hx7⟩; have hE := hE.trans hx7; (try have hcI := HCI.out _ a1 HI12.out hE); (try have hcK := HCK.out _ a2 HK12.out hE))
        | (go_at_call 23; with_reducible refine (HLIV.out _ ?_).mono ?_; exact HX5.out.trans (HX6.out.trans hE); rintro e w7 ⟨rfl, hx7⟩; have hE := hE.trans hx7; (try have hcI := HCI.out _ a1 HI12.out hE); (try have hcK := HCK.out _ a2 HK12.out hE)))
      go_ret
      exact ⟨rfl, HX3.out.trans (HX5.out.trans (HX6.out.trans hE))⟩
    · have f1 : ¬ ((i : Int) > 9) := by omega
      have f2 : (k : Int) > 9 := by omega
      have e1 := HXI.out a1
      subst e1
      have g2 : (0 : Int) ≤ (k : Int) - 10 := by omega
      have g3 : (k : Int) - 10 < 3 := by omega
      have g4 : ((k : Int) - 10).toNat = k - 10 := by omega
      (try clear z0)
      (try clear z1)
      (try clear z2)
      have hE := Ext.refl w6
      go_wp2_with (first
        | (go_at_call 24; with_reducible refine (HA1.out _).mono ?_; rintro e w7 ⟨rfl, rfl⟩)
        | (go_at_call 24; with_reducible refine (HA2.out _).mono ?_; rintro e w7 ⟨rfl, rfl⟩)
        | (go_at_call 37; with_reducible refine (HDI1.out _ ?_).mono ?_; exact HX6.out.trans hE; rintro e w7 ⟨rfl, hx7⟩; have hE := hE.trans hx7; (try have hcI := HCI.out _ a1 HI12.out hE); (try have hcK := HCK.out _ a2 HK12.out hE))
        | (go_at_call 37; with_reducible refine (HDK1.out _ ?_).mono ?_; exact HX6.out.trans hE; rintro e w7 ⟨rfl, hx7⟩; have hE := hE.trans hx7; (try have hcI := HCI.out _ a1 HI12.out hE); (try have hcK := HCK.out _ a2 HK12.out hE))
        | (go_at_call 38; with_reducible refine (HSZ.out _ ?_).mono ?_; exact HX6.out.trans hE; rintro e w7 ⟨rfl, hx7⟩; have hE := hE.trans hx7; (try have hcI := HCI.out _ a1 HI12.out hE); (try have hcK := HCK.out _ a2 HK12.out hE))
        | (go_at_call 33; with_reducible refine (HS0.out _ ?_).mono ?_; exact HX6.out.trans hE; rintro e w7 ⟨rfl, hx7⟩; have hE := hE.trans hx7; (try have hcI := HCI.out _ a1 HI12.out hE); (try have hcK := HCK.out _ a2 HK12.out hE))
        | (go_at_call 33; with_reducible refine (HSI1.out _ ?_).mono ?_; exact HX6.out.trans hE; rintro e w7 ⟨rfl, hx7⟩; have hE := hE.trans hx7; (try have hcI := HCI.out _ a1 HI12.out hE); (try have hcK := HCK.out _ a2 HK12.out hE))
        | (go_at_call 33; with_reducible refine (HSK1.out _ ?_).mono ?_; exact HX6.out.trans hE; rintro e w7 ⟨rfl, hx7⟩; have hE := hE.trans hx7; (try have hcI := HCI.out _ a1 HI12.out hE); (try have hcK := HCK.out _ a2 HK12.out hE))
        | (go_at_call 31; with_reducible refine (HSP1.out _).mono ?_; rintro e w7 ⟨FE, fc, rfl, hx7⟩; have hE := hE.trans hx7; (try have hcI := HCI.out _ a1 HI12.out hE); (try have hcK := HCK.out _ a2 HK12.out hE))
        | (go_at_call 23; with_reducible refine (HLIV.out _ ?_).mono ?_; exact HX5.out.trans (HX6.out.trans hE); rintro e w7 ⟨rfl, hx7⟩; have hE := hE.trans hx7; (try have hcI := HCI.out _ a1 HI12.out hE); (try have hcK := HCK.out _ a2 HK12.out hE)))
      go_ret
      exact ⟨rfl, HX3.out.trans (HX5.out.trans (HX6.out.trans hE))⟩
    · have f1 : (i : Int) > 9 := by omega
      have f2 : ¬ ((k : Int) > 9) := by omega
      have e2 := HXK.out a2
      subst e2
      have g2 : (0 : Int) ≤ (i : Int) - 10 := by omega
      have g3 : (i : Int) - 10 < 3 := by omega
      have g4 : ((i : Int) - 10).toNat = i - 10 := by omega
      (try clear z0)
      (try clear z1)
      (try clear z2)
      have hE := Ext.refl w6
      go_wp2_with (first
        | (go_at_call 24; with_reducible refine (HA1.out _).mono ?_; rintro e w7 ⟨rfl, rfl⟩)
        | (go_at_call 24; with_reducible refine (HA2.out _).mono ?_; rintro e w7 ⟨rfl, rfl⟩)
        | (go_at_call 37; with_reducible refine (HDI1.out _ ?_).mono ?_; exact HX6.out.trans hE; rintro e w7 ⟨rfl, hx7⟩; have hE := hE.trans hx7; (try have hcI := HCI.out _ a1 HI12.out hE); (try have hcK := HCK.out _ a2 HK12.out hE))
        | (go_at_call 37; with_reducible refine (HDK1.out _ ?_).mono ?_; exact HX6.out.trans hE; rintro e w7 ⟨rfl, hx7⟩; have hE := hE.trans hx7; (try have hcI := HCI.out _ a1 HI12.out hE); (try have hcK := HCK.out _ a2 HK12.out hE))
        | (go_at_call 38; with_reducible refine (HSZ.out _ ?_).mono ?_; exact HX6.out.trans hE; rintro e w7 ⟨rfl, hx7⟩; have hE := hE.trans hx7; (try have hcI := HCI.out _ a1 HI12.out hE); (try have hcK := HCK.out _ a2 HK12.out hE))
        | (go_at_call 33; with_reducible refine (HS0.out _ ?_).mono ?_; exact HX6.out.trans hE; rintro e w7 ⟨rfl, hx7⟩; have hE := hE.trans hx7; (try have hcI := HCI.out _ a1 HI12.out hE); (try have hcK := HCK.out _ a2 HK12.out hE))
        | (go_at_call 33; with_reducible refine (HSI1.out _ ?_).mono ?_; exact HX6.out.trans hE; rintro e w7 ⟨rfl, hx7⟩; have hE := hE.trans hx7; (try have hcI := HCI.out _ a1 HI12.out hE); (try have hcK := HCK.out _ a2 HK12.out hE))
        | (go_at_call 33; with_reducible refine (HSK1.out _ ?_).mono ?_; exact HX6.out.trans hE; rintro e w7 ⟨rfl, hx7⟩; have hE := hE.trans hx7; (try have hcI := HCI.out _ a1 HI12.out hE); (try have hcK := HCK.out _ a2 HK12.out hE))
        | (go_at_call 31; with_reducible refine (HSP1.out _).mono ?_; rintro e w7 ⟨FE, fc, rfl, hx7⟩; have hE := hE.trans hx7; (try have hcI := HCI.out _ a1 HI12.out hE); (try have hcK := HCK.out _ a2 HK12.out hE))
        | (go_at_call 23; with_reducible refine (HLIV.out _ ?_).mono ?_; exact HX5.out.trans (HX6.out.trans hE); rintro e w7 ⟨rfl, hx7⟩; have hE := hE.trans hx7; (try have hcI := HCI.out _ a1 HI12.out hE); (try have hcK := HCK.out _ a2 HK12.out hE)))
      go_ret
      exact ⟨rfl, HX3.out.trans (HX5.out.trans (HX6.out.trans hE))⟩
    · have f1 : (i : Int) > 9 := by omega
      have f2 : (k : Int) > 9 := by omega
      have g2 : (0 : Int) ≤ (i : Int) - 10 := by omega
      have g3 : (i : Int) - 10 < 3 := by omega
      have g4 : ((i : Int) - 10).toNat = i - 10 := by omega
      have h2 : (0 : Int) ≤ (k : Int) - 10 := by omega
      have h3 : (k : Int) - 10 < 3 := by omega
      have h4 : ((k : Int) - 10).toNat = k - 10 := by omega
      (try clear z0)
      (try clear z1)
      (try clear z2)
      have hE := Ext.refl w6
      go_wp2_with (first
        | (go_at_call 24; with_reducible refine (HA1.out _).mono ?_; rintro e w7 ⟨rfl, rfl⟩)
        | (go_at_call 24; with_reducible refine (HA2.out _).mono ?_; rintro e w7 ⟨rfl, rfl⟩)
        | (go_at_call 37; with_reducible refine (HDI1.out _ ?_).mono ?_; exact HX6.out.trans hE; rintro e w7 ⟨rfl, hx7⟩; have hE := hE.trans hx7; (try have hcI := HCI.out _ a1 HI12.out hE); (try have hcK := HCK.out _ a2 HK12.out hE))
        | (go_at_call 37; with_reducible refine (HDK1.out _ ?_).mono ?_; exact HX6.out.trans hE; rintro e w7 ⟨rfl, hx7⟩; have hE := hE.trans hx7; (try have hcI := HCI.out _ a1 HI12.out hE); (try have hcK := HCK.out _ a2 HK12.out hE))
        | (go_at_call 38; with_reducible refine (HSZ.out _ ?_).mono ?_; exact HX6.out.trans hE; rintro e w7 ⟨rfl, hx7⟩; have hE := hE.trans hx7; (try have hcI := HCI.out _ a1 HI12.out hE); (try have hcK := HCK.out _ a2 HK12.out hE))
        | (go_at_call 33; with_reducible refine (HS0.out _ ?_).mono ?_; exact HX6.out.trans hE; rintro e w7 ⟨rfl, hx7⟩; have hE := hE.trans hx7; (try have hcI := HCI.out _ a1 HI12.out hE); (try have hcK := HCK.out _ a2 HK12.out hE))
        | (go_at_call 33; with_reducible refine (HSI1.out _ ?_).mono ?_; exact HX6.out.trans hE; rintro e w7 ⟨rfl, hx7⟩; have hE := hE.trans hx7; (try have hcI := HCI.out _ a1 HI12.out hE); (try have hcK := HCK.out _ a2 HK12.out hE))
        | (go_at_call 33; with_reducible refine (HSK1.out _ ?_).mono ?_; exact HX6.out.trans hE; rintro e w7 ⟨rfl, hx7⟩; have hE := hE.trans hx7; (try have hcI := HCI.out _ a1 HI12.out hE); (try have hcK := HCK.out _ a2 HK12.out hE))
        | (go_at_call 31; with_reducible refine (HSP1.out _).mono ?_; rintro e w7 ⟨FE, fc, rfl, hx7⟩; have hE := hE.trans hx7; (try have hcI := HCI.out _ a1 HI12.out hE); (try have hcK := HCK.out _ a2 HK12.out hE))
        | (go_at_call 23; with_reducible refine (HLIV.out _ ?_).mono ?_; exact HX5.out.trans (HX6.out.trans hE); rintro e w7 ⟨rfl, hx7⟩; have hE := hE.trans hx7; (try have hcI := HCI.out _ a1 HI12.out hE); (try have hcK := HCK.out _ a2 HK12.out hE)))
      go_ret
      exact ⟨rfl, HX3.out.trans (HX5.out.trans (HX6.out.trans hE))⟩
end Go.Proofs.YtdkjkbbibdppoaaGreatDoor.Loc
