/- The law LocaleAround: what stands ahead of a number, and behind it, is the document's. (Printed by wip/gen/law11.py.) -/
import Derived.Test.YtdkjkbbibdppoaaGreatDoorLTell
import Derived.Test.YtdkjkbbibdppoaaGreatDoorLRef3b
import Derived.Test.YtdkjkbbibdppoaaGreatDoorLGoodW
import Derived.Test.YtdkjkbbibdppoaaGreatDoorJLocC
import Derived.Deep.RegionHeld3
namespace Go.Proofs.YtdkjkbbibdppoaaGreatDoor.Loc
open Go.RowKit Utf All Small Strs Build EncC Pat Cls Dec Go.Proofs.YtdkjkbbibdppoaaGreatDoor.Sys
set_option linter.unusedVariables false
set_option linter.unusedSimpArgs false

theorem infoT : (Tryz.prog.info? 64).map (·.size) = some 2 := by kernel_rfl
theorem tStruct : Tryz.prog.underlying 64 = some (.struct (Tryz.prog.fieldsOf 64)) := by kernel_rfl
theorem tHeld : Tryz.prog.stoodInHeld 64 = false := by kernel_rfl
theorem tGuard : Tryz.prog.eqGuardType Tryz.prog.depth 64 = false := by kernel_rfl
theorem neq_t (x y : Prt) (w : World) : (binOp .neq 64 (.agg #[.bool x.1, .string ⟨x.2.toArray⟩]) (.agg #[.bool y.1, .string ⟨y.2.toArray⟩])).run Tryz.prog w = .ok (.bool (!decide (x = y))) w := by
  have u3 := Tryz.underlying4
  have a3 := Tryz.isAgg4
  have z3 := Tryz.sizeOf4
  have u9 := Tryz.underlying9
  have a9 := Tryz.isAgg9
  have z9 := Tryz.sizeOf9
  obtain ⟨k, t⟩ := x
  obtain ⟨j, u⟩ := y
  rw [run_neq_struct, show (10000 : Nat) = 9999 + 1 from rfl, run_equalIn_agg w 9999 64 _ _ tStruct tHeld]
  simp only [Program.fieldsOf, Tryz.underlying64]
  have hb := beq_strL ⟨t.toArray⟩ ⟨u.toArray⟩
  have hd : (⟨t.toArray⟩ : ByteArray).data.toList = t := rfl
  have hd2 : (⟨u.toArray⟩ : ByteArray).data.toList = u := rfl
  rw [hd, hd2] at hb
  go_simp
  by_cases h1 : k = j <;> by_cases h2 : t = u <;> simp [h1, h2, hb]
theorem prt_oneCell (l : List Prt) : ∀ u ∈ prtV l, u.oneCell' = true := by
  intro u hu
  unfold prtV at hu
  obtain ⟨p, _, hp⟩ := List.mem_flatMap.1 hu
  simp [prV] at hp
  rcases hp with rfl | rfl <;> rfl
theorem row_pr {w : World} {X : Option Addr} {l : List Prt} {k : Nat} (h : Row w X (prtV l)) (hk : k < l.length) :
    ∃ b off, X = some ⟨b, off, none⟩ ∧ w.rangeAt b (off + k * 2) [.bool l[k].1, .string ⟨l[k].2.toArray⟩] := by
  obtain ⟨b, off, rfl, hc⟩ := h.at_ (k := k * 2) (by rw [prt_len]; omega)
  refine ⟨b, off, rfl, fun j v hv => ?_⟩
  have hj : j < 2 := (List.getElem?_eq_some_iff.1 hv).1
  rw [Nat.add_assoc]
  refine hc _ _ ?_
  have h1 := flat_at prV 2 (fun _ => rfl) l k hk j hj
  unfold prtV
  rw [h1]; exact hv
theorem sign_take (l : List Prt) {k : Nat} (hk : k < l.length) : nSign (l.take (k + 1)) = nSign (l.take k) + (if l[k].1 then 1 else 0) := by
  unfold nSign
  rw [List.take_succ_eq_append_getElem hk, List.countP_append]
  by_cases h : l[k].1 = true <;> simp [h]
set_option maxHeartbeats 16000000 in
set_option maxRecDepth 1000000 in
theorem law_LocaleAround (v0 v1 v2 v3 v4 v5 : Int) (neg : Bool) (w : World) (h0 : i64 v0) (h1 : i64 v1) (h2 : i64 v2) (h3 : i64 v3) (h4 : i64 v4) (h5 : i64 v5) (hT : Tabs w) :
    Calls Tryz.prog 4 #[.agg #[.int .i64 v0, .int .i64 v1, .int .i64 v2, .int .i64 v3, .int .i64 v4, .int .i64 v5], .bool neg] w fun e w' => e = .returned (.bool true) ∧ Below w.heap.size w w' := by
  obtain ⟨r, p, hB, hG⟩ : ∃ r p, Both r p ∧ ∀ W, Calls Tryz.prog 17 #[.agg #[.int .i64 v0, .int .i64 v1, .int .i64 v2, .int .i64 v3, .int .i64 v4, .int .i64 v5]] W fun e w' => e = .returned (.agg (recV r).toArray) ∧ Ext W w' :=
    ⟨_, _, both_good v0 v1 v2 v3 v4 v5, fun W => good_ v0 v1 v2 v3 v4 v5 W h0 h1 h2 h3 h4 h5⟩
  have HB := Lib.hid hB
  have HGD := Lib.hid hG
  have HTW := Lib.hid hT
  have hb1 := Box.new w 43 [.int .i64 v0, .int .i64 v1, .int .i64 v2, .int .i64 v3, .int .i64 v4, .int .i64 v5]
  have hx1 : Ext w (w.alloc (.cells ([.int .i64 v0, .int .i64 v1, .int .i64 v2, .int .i64 v3, .int .i64 v4, .int .i64 v5] : List Value).toArray 43)) := Ext.alloc_ (Ext.refl w) _
  clear hB hG hT h0 h1 h2 h3 h4 h5
  go_enter Tryz.func4, Tryz.ntmps4
  go_upto_region 1 with fail
  change Code.wp _ _ _ _ (w.alloc (.cells ([.int .i64 v0, .int .i64 v1, .int .i64 v2, .int .i64 v3, .int .i64 v4, .int .i64 v5] : List Value).toArray 43))
  generalize w.alloc (.cells ([.int .i64 v0, .int .i64 v1, .int .i64 v2, .int .i64 v3, .int .i64 v4, .int .i64 v5] : List Value).toArray 43) = w1 at *
  have HRG := Lib.hid hb1.range
  go_upto_region 2 with (first
    | (refine wpList_load_mid rfl 43 (.tmp 2) rfl w.heap.size 0 rfl [.int .i64 v0, .int .i64 v1, .int .i64 v2, .int .i64 v3, .int .i64 v4, .int .i64 v5] _ HRG.out Tryz.underlying43 rfl infoG ?_)
    | (go_at_call 17; refine (HGD.out w1).mono ?_; rintro e w2 ⟨rfl, hx2⟩)
    | (refine wpList_store_fresh rfl 45 (.tmp 5) (.tmp 17) rfl (recV r).toArray 45 _ rfl rfl infoR rfl (recs_one r) ?_))
  have hb3 := Box.new w2 45 (recV r)
  have hx3 : Ext w (w2.alloc (.cells (recV r).toArray 45)) := Ext.alloc_ (hx1.trans hx2) _
  generalize w2.alloc (.cells (recV r).toArray 45) = w3 at *
  generalize w2.heap.size = rb at *
  have hr3 : w3.rangeAt rb 0 [.string ⟨r.name.toArray⟩, .string ⟨r.pattern.toArray⟩, .string ⟨r.system.toArray⟩, .string ⟨r.decimal.toArray⟩, .string ⟨r.group.toArray⟩, .string ⟨r.minus.toArray⟩, .string ⟨r.percent.toArray⟩, .string ⟨r.currency.toArray⟩] := hb3.range
  have HR3 := Lib.hid hb3
  have HRR := Lib.hid hr3
  have HX3 := Lib.hid hx3
  have HOF := Lib.hid (of_ r w3)
  have HNW : Hid (∀ W, Ext w3 W → Calls Tryz.prog 18 #[.agg (recV r).toArray] W fun e w' => ∃ g A B C D c d a b, e = .returned (.tuple #[.pointer (some ⟨g, 0, none⟩), .nilIface]) ∧ LocR w' g A B C D c d a b (locOf r p) ∧ Ext W w') := Lib.hid fun W hW =>
    new_ r p W HB.out.pat (by have := HB.out.plen; omega) HB.out.nm HB.out.may (HTW.out.ext (HX3.out.trans hW))
  clear hb1 HRG hx1 hx2 hb3 hx3 hr3 HGD
  go_upto_region 5 with (first
    | (refine wpList_load_mid rfl 45 (.tmp 5) rfl rb 0 rfl _ _ HRR.out Tryz.underlying45 rfl infoR ?_)
    | (go_at_call 19; refine HOF.out.mono ?_; rintro e w4 ⟨rfl, hx4⟩)
    | (go_at_call 18; refine (HNW.out _ hx4).mono ?_; rintro e w5 ⟨g, A, B, C, D, c, d, a, b, rfl, hL, hx5⟩))
  have HL := Lib.hid hL
  have HX5 := Lib.hid (hx4.trans hx5)
  have HLIV : Hid (∀ W, Ext w3 W → Calls Tryz.prog 23 #[] W fun e w' => e = .returned (.bool true) ∧ Ext W w') := Lib.hid fun W hW => lives11 W (HTW.out.ext (HX3.out.trans hW))
  clear hL hx4 hx5 HNW HOF
  have HBO := HB.out
  have hpb : ∀ q ∈ affs (locOf r p), q.length ≤ 1000 := HBO.may.b.len
  have hla : (ahead (locOf r p) neg).length ≤ 1000 := Nat.le_trans (parts_len _ _) (by cases neg; exact hpb _ (by simp [affs]); exact hpb _ (by simp [affs]))
  have hlb : (behind (locOf r p) neg).length ≤ 1000 := Nat.le_trans (parts_len _ _) (by cases neg; exact hpb _ (by simp [affs]); exact hpb _ (by simp [affs]))
  have HGA : Hid (∀ x ∈ ahead (locOf r p) neg, GoodP x) := Lib.hid (parts_good _ _)
  have HGB : Hid (∀ x ∈ behind (locOf r p) neg, GoodP x) := Lib.hid (parts_good _ _)
  have HCN := Lib.hid (HBO.count neg)
  have HAR : Hid (∀ W, Ext w5 W → Calls Tryz.prog 20 #[.pointer (some ⟨g, 0, none⟩), .bool neg] W fun e w' => ∃ E c1 F c2, e = .returned (.tuple #[.slice E (ahead (locOf r p) neg).length c1, .slice F (behind (locOf r p) neg).length c2]) ∧ Row w' E (prtV (ahead (locOf r p) neg)) ∧ Row w' F (prtV (behind (locOf r p) neg)) ∧ Okc E c1 ∧ Okc F c2 ∧ Ext W w') := Lib.hid fun W hW =>
    around_l g A B C D c d a b neg (locOf r p) W (HL.out.ext hW) HB.out.may.b
  have HRN := Lib.hid (fun W => ref_new r p W HB.out)
  have HRA : Hid (∀ A B C D c d a b W, PtR W A B C D p → CapR p c d a b → Calls Tryz.prog 21 #[.agg (refLV A B C D c d a b r p).toArray, .bool neg] W fun e w' => ∃ E c1 F c2, e = .returned (.tuple #[.slice E (ahead (locOf r p) neg).length c1, .slice F (behind (locOf r p) neg).length c2]) ∧ Row w' E (prtV (ahead (locOf r p) neg)) ∧ Row w' F (prtV (behind (locOf r p) neg)) ∧ Okc E c1 ∧ Okc F c2 ∧ Ext W w') := Lib.hid fun A B C D c d a b W h1 h2 =>
    ref_around A B C D c d a b neg r p W HB.out h1 h2
  have HRR5 := Lib.hid (Ext.range_ HX5.out HRR.out)
  clear HBO hpb
  generalize ahead (locOf r p) neg = L1 at *
  generalize behind (locOf r p) neg = L2 at *
  go_upto_region 7 with (first
    | (go_at_call 20; with_reducible refine (HAR.out _ (Ext.refl _)).mono ?_; rintro e w6 ⟨E1, c1, F1, c2, rfl, hE1, hF1, oE1, oF1, hx6⟩; have hrr6 := Ext.range_ hx6 HRR5.out)
    | (refine wpList_load_mid rfl 45 (.tmp 5) rfl rb 0 rfl _ _ hrr6 Tryz.underlying45 rfl infoR ?_)
    | (go_at_call 22; refine (HRN.out _).mono ?_; rintro e w7 ⟨A', B', C', D', c', d', a', b', rfl, hpt7, hcap7, hx7⟩)
    | (go_at_call 21; with_reducible refine (HRA.out _ _ _ _ _ _ _ _ _ hpt7 hcap7).mono ?_; rintro e w8 ⟨E2, c3, F2, c4, rfl, hE2, hF2, oE2, oF2, hx8⟩))
  have hx68 := hx7.trans hx8
  have HE1 := Lib.hid (hE1.below hx68 (Nat.le_refl _))
  have HF1 := Lib.hid (hF1.below hx68 (Nat.le_refl _))
  have HE2 := Lib.hid hE2
  have HF2 := Lib.hid hF2
  have HX8 := Lib.hid (HX5.out.trans (hx6.trans hx68))
  have HP1 := Lib.hid (prt_len L1)
  have HP2 := Lib.hid (prt_len L2)
  clear hE1 hF1 hE2 hF2 hpt7 hcap7 hx6 hx7 hx8 hx68 hrr6 HRN HRA HAR HRR5
  have hacc0 := Acc.start 65 2 w8
  go_upto_region 10 with (first
    | (at_builtin; refine wp_src ei_prt rfl (.tmp 43) (.tmp 44) rfl w8 _ none 0 0 [] rfl hacc0 E1 L1.length c1 (prtV L1) rfl HE1.out oE1 HP1.out (prt_oneCell L1) (by omega) (by unfold maxLen; omega) ?_; intro P1 q1 w9 hP9 _; rw [Nat.zero_add, List.nil_append] at hP9)
    | (at_builtin; refine wp_src ei_prt rfl (.tmp 46) (.tmp 47) rfl w8 _ P1 q1 L1.length _ rfl hP9 F1 L2.length c2 (prtV L2) rfl (HF1.out.below hP9.ext (Nat.le_refl _)) oF1 HP2.out (prt_oneCell L2) (by omega) (by unfold maxLen; omega) ?_; intro P2 q2 w10 hP10 _))
  have HP10 := Lib.hid hP10
  have hacc1 := Acc.start 64 2 w10
  have hx810 := hP10.ext
  have HE3 := Lib.hid (HE2.out.below hx810 (Nat.le_refl _))
  have HF3 := Lib.hid (HF2.out.below hx810 (Nat.le_refl _))
  have HX10 := Lib.hid (HX8.out.trans hx810)
  clear hP9 hP10 hacc0 hx810
  go_upto_region 13 with (first
    | (at_builtin; refine wp_src ei_t rfl (.tmp 49) (.tmp 50) rfl w10 _ none 0 0 [] rfl hacc1 E2 L1.length c3 (prtV L1) rfl HE3.out oE2 HP1.out (prt_oneCell L1) (by omega) (by unfold maxLen; omega) ?_; intro P3 q3 w11 hP11 _; rw [Nat.zero_add, List.nil_append] at hP11)
    | (at_builtin; refine wp_src ei_t rfl (.tmp 52) (.tmp 53) rfl w10 _ P3 q3 L1.length _ rfl hP11 F2 L2.length c4 (prtV L2) rfl (HF3.out.below hP11.ext (Nat.le_refl _)) oF2 HP2.out (prt_oneCell L2) (by omega) (by unfold maxLen; omega) ?_; intro P4 q4 w12 hP12 _))
  have hr1 := HP10.out.row.below hP12.ext (Nat.le_refl _)
  have hr2 := hP12.row
  rw [← prt_app] at hr1 hr2
  have HR1 := Lib.hid hr1
  have HR2 := Lib.hid hr2
  have HX12 := Lib.hid (HX10.out.trans hP12.ext)
  have HGL : Hid (∀ x ∈ L1 ++ L2, GoodP x) := Lib.hid fun x hx => (List.mem_append.1 hx).elim (HGA.out x) (HGB.out x)
  have HSN : Hid (nSign (L1 ++ L2) = if neg then 1 else 0) := Lib.hid (by unfold nSign; rw [List.countP_append]; exact HCN.out)
  have hll : (L1 ++ L2).length = L1.length + L2.length := List.length_append
  have hl2 : (L1 ++ L2).length ≤ 2000 := by rw [List.length_append]; omega
  clear hP11 hP12 hacc1 hr1 hr2 HE1 HF1 HE2 HF2 HE3 HF3 HP1 HP2 HGA HGB HCN HX8 HX10 HP10
  rw [← hll]
  generalize L1 ++ L2 = L at *
  have HTK : Hid (L.take L.length = L) := Lib.hid (List.take_length)
  generalize hn : L.length = n at *
  have HN := Lib.hid hn
  clear hn
  have b0 : ((n : Int) != (n : Int)) = false := by simp
  have b1 : ((L1.length : Int) != (L1.length : Int)) = false := by simp
  go_upto_region 16 with fail
  go_wp2
  go_loopw [14, 15] (fun m i wr => ∃ k : Nat, k ≤ n ∧ i = .int .i64 k ∧ m = .int .i64 (nSign (L.take k)) ∧ nSign (L.take k) ≤ k ∧ Ext w12 wr) (fun _ i _ => n - (intOf i).toNat)
  case atStart => exact ⟨0, Nat.zero_le _, rfl, rfl, by simp [nSign], Ext.refl _⟩
  case round =>
    obtain ⟨k, hk, rfl, rfl, hks, hx⟩ := hrel
    by_cases hlt : k < n
    · have hkl : k < L.length := by have := HN.out; omega
      obtain ⟨b1', o1, rfl, hg1⟩ := row_pr (HR1.out.below hx (Nat.le_refl _)) hkl
      obtain ⟨b2', o2, rfl, hg2⟩ := row_pr (HR2.out.below hx (Nat.le_refl _)) hkl
      have HST := Lib.hid (sign_take L hkl)
      have hgp := HGL.out _ (List.getElem_mem hkl)
      generalize L[k] = x at *
      obtain ⟨sg, t⟩ := x
      simp only at hg1 hg2
      have k0 : wr.cell? ⟨b1', o1 + k * 2, none⟩ = some (.bool sg) := hg1 0 _ rfl
      have k1 : wr.cell? ⟨b1', o1 + k * 2 + 1, none⟩ = some (.string ⟨t.toArray⟩) := hg1 1 _ rfl
      have i1 : (k : Int) < (n : Int) := by omega
      have i2 : (0 : Int) ≤ (k : Int) := by omega
      have i3 : (k : Int) < (L1.length : Int) + (L2.length : Int) := by omega
      have hnp := fun w => neq_t (sg, t) (sg, t) w
      have hgd : ∀ (x y : Prt) (o1 o2 : Operand) (w : World), (eqGuard .neq 64 o1 o2 (.agg #[.bool x.1, .string ⟨x.2.toArray⟩]) (.agg #[.bool y.1, .string ⟨y.2.toArray⟩])).run Tryz.prog w = .ok () w := fun _ _ _ _ w => run_eqGuard_agg w .neq 64 _ _ _ _ tGuard
      have hgd0 := fun o1 o2 w => hgd (sg, t) (sg, t) o1 o2 w
      simp only [decide_true, Bool.not_true] at hnp
      simp only at hgd0
      have HX := Lib.hid hx
      clear hgd hx
      rcases hgp with ⟨e1, e2⟩ | ⟨e1, e2⟩
      · simp only at e1 e2
        subst e1; subst e2
        have HS2 : Hid (nSign (L.take (k + 1)) = nSign (L.take k) + 1) := Lib.hid (by rw [HST.out]; rfl)
        generalize nSign (L.take k) = m at *
        go_upto_region 19 with fail
        refine wp_region_noPanic ?_
        refine wp_region_held_drew (S := fun W => Ext wr W ∧ W.rangeAt b1' (o1 + k * 2) [.bool true, .string ⟨#[]⟩] ∧ W.rangeAt b2' (o2 + k * 2) [.bool true, .string ⟨#[]⟩] ∧ W.cell? ⟨b1', o1 + k * 2, none⟩ = some (.bool true) ∧ W.cell? ⟨b1', o1 + k * 2 + 1, none⟩ = some (.string ⟨#[]⟩)) (by kernel_rfl) ?_ (fun hHeld => ?_)
        · exact ⟨Ext.drew_ (Ext.refl _), hg1, hg2, k0, k1⟩
        refine take_ 0 (v := ?_) rfl (by kernel_rfl) (by kernel_rfl) (by kernel_rfl) (fun _ _ _ h => h) hHeld (by rfl) ?_ ?_
        rotate_left 1
        · (intro w hSw; (try dsimp only at hSw); go_simp; all_goals with_reducible rfl)
        try simp only [Act.put, List.setIfInBounds_toArray, List.set_cons_zero, List.set_cons_succ]
        refine take_ 1 (v := ?_) rfl (by kernel_rfl) (by kernel_rfl) (by kernel_rfl) (fun _ _ _ h => h) hHeld (by rfl) ?_ ?_
        rotate_left 1
        · (intro w hSw; (try dsimp only at hSw); go_simp; all_goals with_reducible rfl)
        try simp only [Act.put, List.setIfInBounds_toArray, List.set_cons_zero, List.set_cons_succ]
        refine take_ 2 (v := ?_) rfl (by kernel_rfl) (by kernel_rfl) (by kernel_rfl) (fun _ _ _ h => h) hHeld (by rfl) ?_ ?_
        rotate_left 1
        · (intro w hSw; (try dsimp only at hSw); go_simp; all_goals with_reducible rfl)
        try simp only [Act.put, List.setIfInBounds_toArray, List.set_cons_zero, List.set_cons_succ]
        refine takeRow_ (cs := [.bool true, .string ⟨#[]⟩]) 3 rfl (by kernel_rfl) (by kernel_rfl) (by kernel_rfl) (fun _ _ _ h => h) hHeld (by rfl) 65 ((.tmp 75)) rfl b1' ((o1 + k * 2)) rfl _ (fun _ h => h.2.1) Tryz.underlying65 rfl infoPrt ?_
        try simp only [Act.put, List.setIfInBounds_toArray, List.set_cons_zero, List.set_cons_succ]
        refine take_ 4 (v := ?_) rfl (by kernel_rfl) (by kernel_rfl) (by kernel_rfl) (fun _ _ _ h => h) hHeld (by rfl) ?_ ?_
        rotate_left 1
        · (intro w hSw; (try dsimp only at hSw); go_simp; all_goals with_reducible rfl)
        try simp only [Act.put, List.setIfInBounds_toArray, List.set_cons_zero, List.set_cons_succ]
        refine take_ 5 (v := ?_) rfl (by kernel_rfl) (by kernel_rfl) (by kernel_rfl) (fun _ _ _ h => h) hHeld (by rfl) ?_ ?_
        rotate_left 1
        · (intro w hSw; (try dsimp only at hSw); go_simp; all_goals with_reducible rfl)
        try simp only [Act.put, List.setIfInBounds_toArray, List.set_cons_zero, List.set_cons_succ]
        refine take_ 6 (v := ?_) rfl (by kernel_rfl) (by kernel_rfl) (by kernel_rfl) (fun _ _ _ h => h) hHeld (by rfl) ?_ ?_
        rotate_left 1
        · (intro w hSw; (try dsimp only at hSw); go_simp; all_goals with_reducible rfl)
        try simp only [Act.put, List.setIfInBounds_toArray, List.set_cons_zero, List.set_cons_succ]
        refine takeRow_ (cs := [.bool true, .string ⟨#[]⟩]) 7 rfl (by kernel_rfl) (by kernel_rfl) (by kernel_rfl) (fun _ _ _ h => h) hHeld (by rfl) 64 ((.tmp 79)) rfl b2' ((o2 + k * 2)) rfl _ (fun _ h => h.2.2.1) Tryz.underlying64 rfl infoT ?_
        try simp only [Act.put, List.setIfInBounds_toArray, List.set_cons_zero, List.set_cons_succ]
        refine take_ 8 (v := ?_) rfl (by kernel_rfl) (by kernel_rfl) (by kernel_rfl) (fun _ _ _ h => h) hHeld (by rfl) ?_ ?_
        rotate_left 1
        · (intro w hSw; (try dsimp only at hSw); go_simp; all_goals with_reducible rfl)
        try simp only [Act.put, List.setIfInBounds_toArray, List.set_cons_zero, List.set_cons_succ]
        refine take_ 9 (v := ?_) rfl (by kernel_rfl) (by kernel_rfl) (by kernel_rfl) (fun _ _ _ h => h) hHeld (by rfl) ?_ ?_
        rotate_left 1
        · (intro w hSw; (try dsimp only at hSw); go_simp; all_goals with_reducible rfl)
        try simp only [Act.put, List.setIfInBounds_toArray, List.set_cons_zero, List.set_cons_succ]
        refine take_ 10 (v := ?_) rfl (by kernel_rfl) (by kernel_rfl) (by kernel_rfl) (fun _ _ _ h => h) hHeld (by rfl) ?_ ?_
        rotate_left 1
        · (intro w hSw; (try dsimp only at hSw); go_simp; all_goals with_reducible rfl)
        try simp only [Act.put, List.setIfInBounds_toArray, List.set_cons_zero, List.set_cons_succ]
        refine take_ 11 (v := ?_) rfl (by kernel_rfl) (by kernel_rfl) (by kernel_rfl) (fun _ _ _ h => h) hHeld (by rfl) ?_ ?_
        rotate_left 1
        · (intro w hSw; (try dsimp only at hSw); go_simp; all_goals with_reducible rfl)
        try simp only [Act.put, List.setIfInBounds_toArray, List.set_cons_zero, List.set_cons_succ]
        refine take_ 12 (v := ?_) rfl (by kernel_rfl) (by kernel_rfl) (by kernel_rfl) (fun _ _ _ h => h) hHeld (by rfl) ?_ ?_
        rotate_left 1
        · (intro w hSw; (try dsimp only at hSw); go_simp; all_goals with_reducible rfl)
        try simp only [Act.put, List.setIfInBounds_toArray, List.set_cons_zero, List.set_cons_succ]
        refine take_ 13 (v := ?_) rfl (by kernel_rfl) (by kernel_rfl) (by kernel_rfl) (fun _ _ _ h => h) hHeld (by rfl) ?_ ?_
        rotate_left 1
        · (intro w hSw; (try dsimp only at hSw); go_simp; all_goals with_reducible rfl)
        try simp only [Act.put, List.setIfInBounds_toArray, List.set_cons_zero, List.set_cons_succ]
        refine take_ 14 (v := ?_) rfl (by kernel_rfl) (by kernel_rfl) (by kernel_rfl) (fun _ _ _ h => h) hHeld (by rfl) ?_ ?_
        rotate_left 1
        · (intro w hSw; (try dsimp only at hSw); go_simp; all_goals with_reducible rfl)
        try simp only [Act.put, List.setIfInBounds_toArray, List.set_cons_zero, List.set_cons_succ]
        refine take_ 15 (v := ?_) rfl (by kernel_rfl) (by kernel_rfl) (by kernel_rfl) (fun _ _ _ h => h) hHeld (by rfl) ?_ ?_
        rotate_left 1
        · (intro w hSw; (try dsimp only at hSw); go_simp; all_goals with_reducible rfl)
        try simp only [Act.put, List.setIfInBounds_toArray, List.set_cons_zero, List.set_cons_succ]
        refine take_ 16 (v := ?_) rfl (by kernel_rfl) (by kernel_rfl) (by kernel_rfl) (fun _ _ _ h => h) hHeld (by rfl) ?_ ?_
        rotate_left 1
        · (intro w hSw; (try dsimp only at hSw); go_simp; all_goals with_reducible rfl)
        try simp only [Act.put, List.setIfInBounds_toArray, List.set_cons_zero, List.set_cons_succ]
        refine take_ 17 (v := ?_) rfl (by kernel_rfl) (by kernel_rfl) (by kernel_rfl) (fun _ _ _ h => h) hHeld (by rfl) ?_ ?_
        rotate_left 1
        · (intro w hSw; (try dsimp only at hSw); go_simp; all_goals with_reducible rfl)
        try simp only [Act.put, List.setIfInBounds_toArray, List.set_cons_zero, List.set_cons_succ]
        refine take_ 18 (v := ?_) rfl (by kernel_rfl) (by kernel_rfl) (by kernel_rfl) (fun _ _ _ h => h) hHeld (by rfl) ?_ ?_
        rotate_left 1
        · (intro w hSw; (try dsimp only at hSw); go_simp; all_goals with_reducible rfl)
        try simp only [Act.put, List.setIfInBounds_toArray, List.set_cons_zero, List.set_cons_succ]
        refine take_ 19 (v := ?_) rfl (by kernel_rfl) (by kernel_rfl) (by kernel_rfl) (fun _ _ _ h => h) hHeld (by rfl) ?_ ?_
        rotate_left 1
        · (intro w hSw; (try dsimp only at hSw); go_simp; all_goals with_reducible rfl)
        try simp only [Act.put, List.setIfInBounds_toArray, List.set_cons_zero, List.set_cons_succ]
        refine take_ 20 (v := ?_) rfl (by kernel_rfl) (by kernel_rfl) (by kernel_rfl) (fun _ _ _ h => h) hHeld (by rfl) ?_ ?_
        rotate_left 1
        · (intro w hSw; (try dsimp only at hSw); go_simp; all_goals with_reducible rfl)
        try simp only [Act.put, List.setIfInBounds_toArray, List.set_cons_zero, List.set_cons_succ]
        refine take_ 21 (v := ?_) rfl (by kernel_rfl) (by kernel_rfl) (by kernel_rfl) (fun _ _ _ h => h) hHeld (by rfl) ?_ ?_
        rotate_left 1
        · (intro w hSw; (try dsimp only at hSw); go_simp; all_goals with_reducible rfl)
        try simp only [Act.put, List.setIfInBounds_toArray, List.set_cons_zero, List.set_cons_succ]
        refine take_ 22 (v := ?_) rfl (by kernel_rfl) (by kernel_rfl) (by kernel_rfl) (fun _ _ _ h => h) hHeld (by rfl) ?_ ?_
        rotate_left 1
        · (intro w hSw; (try dsimp only at hSw); go_simp; all_goals with_reducible rfl)
        try simp only [Act.put, List.setIfInBounds_toArray, List.set_cons_zero, List.set_cons_succ]
        refine wpAnyH_done (by kernel_rfl) ?_ _
        refine NoPanic.normal ?_
        have HH := Lib.hid hHeld.1
        have k0 := hHeld.2.2.2.1
        clear hHeld
        go_wp2
        go_roundw
        case rel => exact ⟨k + 1, by omega, by go_num, by rw [HS2.out]; go_num, by rw [HS2.out]; omega, HX.out.trans HH.out⟩
        case measure => simp [intOf]; omega
      · simp only at e1 e2
        subst e1
        have hie : t.isEmpty = false := by simpa using e2
        have HS2 : Hid (nSign (L.take (k + 1)) = nSign (L.take k)) := Lib.hid (by rw [HST.out]; rfl)
        generalize nSign (L.take k) = m at *
        go_upto_region 19 with fail
        refine wp_region_noPanic ?_
        refine wp_region_held_drew (S := fun W => Ext wr W ∧ W.rangeAt b1' (o1 + k * 2) [.bool false, .string ⟨t.toArray⟩] ∧ W.rangeAt b2' (o2 + k * 2) [.bool false, .string ⟨t.toArray⟩] ∧ W.cell? ⟨b1', o1 + k * 2, none⟩ = some (.bool false) ∧ W.cell? ⟨b1', o1 + k * 2 + 1, none⟩ = some (.string ⟨t.toArray⟩)) (by kernel_rfl) ?_ (fun hHeld => ?_)
        · exact ⟨Ext.drew_ (Ext.refl _), hg1, hg2, k0, k1⟩
        refine take_ 0 (v := ?_) rfl (by kernel_rfl) (by kernel_rfl) (by kernel_rfl) (fun _ _ _ h => h) hHeld (by rfl) ?_ ?_
        rotate_left 1
        · (intro w hSw; (try dsimp only at hSw); go_simp; all_goals with_reducible rfl)
        try simp only [Act.put, List.setIfInBounds_toArray, List.set_cons_zero, List.set_cons_succ]
        refine take_ 1 (v := ?_) rfl (by kernel_rfl) (by kernel_rfl) (by kernel_rfl) (fun _ _ _ h => h) hHeld (by rfl) ?_ ?_
        rotate_left 1
        · (intro w hSw; (try dsimp only at hSw); go_simp; all_goals with_reducible rfl)
        try simp only [Act.put, List.setIfInBounds_toArray, List.set_cons_zero, List.set_cons_succ]
        refine take_ 2 (v := ?_) rfl (by kernel_rfl) (by kernel_rfl) (by kernel_rfl) (fun _ _ _ h => h) hHeld (by rfl) ?_ ?_
        rotate_left 1
        · (intro w hSw; (try dsimp only at hSw); go_simp; all_goals with_reducible rfl)
        try simp only [Act.put, List.setIfInBounds_toArray, List.set_cons_zero, List.set_cons_succ]
        refine takeRow_ (cs := [.bool false, .string ⟨t.toArray⟩]) 3 rfl (by kernel_rfl) (by kernel_rfl) (by kernel_rfl) (fun _ _ _ h => h) hHeld (by rfl) 65 ((.tmp 75)) rfl b1' ((o1 + k * 2)) rfl _ (fun _ h => h.2.1) Tryz.underlying65 rfl infoPrt ?_
        try simp only [Act.put, List.setIfInBounds_toArray, List.set_cons_zero, List.set_cons_succ]
        refine take_ 4 (v := ?_) rfl (by kernel_rfl) (by kernel_rfl) (by kernel_rfl) (fun _ _ _ h => h) hHeld (by rfl) ?_ ?_
        rotate_left 1
        · (intro w hSw; (try dsimp only at hSw); go_simp; all_goals with_reducible rfl)
        try simp only [Act.put, List.setIfInBounds_toArray, List.set_cons_zero, List.set_cons_succ]
        refine take_ 5 (v := ?_) rfl (by kernel_rfl) (by kernel_rfl) (by kernel_rfl) (fun _ _ _ h => h) hHeld (by rfl) ?_ ?_
        rotate_left 1
        · (intro w hSw; (try dsimp only at hSw); go_simp; all_goals with_reducible rfl)
        try simp only [Act.put, List.setIfInBounds_toArray, List.set_cons_zero, List.set_cons_succ]
        refine take_ 6 (v := ?_) rfl (by kernel_rfl) (by kernel_rfl) (by kernel_rfl) (fun _ _ _ h => h) hHeld (by rfl) ?_ ?_
        rotate_left 1
        · (intro w hSw; (try dsimp only at hSw); go_simp; all_goals with_reducible rfl)
        try simp only [Act.put, List.setIfInBounds_toArray, List.set_cons_zero, List.set_cons_succ]
        refine takeRow_ (cs := [.bool false, .string ⟨t.toArray⟩]) 7 rfl (by kernel_rfl) (by kernel_rfl) (by kernel_rfl) (fun _ _ _ h => h) hHeld (by rfl) 64 ((.tmp 79)) rfl b2' ((o2 + k * 2)) rfl _ (fun _ h => h.2.2.1) Tryz.underlying64 rfl infoT ?_
        try simp only [Act.put, List.setIfInBounds_toArray, List.set_cons_zero, List.set_cons_succ]
        refine take_ 8 (v := ?_) rfl (by kernel_rfl) (by kernel_rfl) (by kernel_rfl) (fun _ _ _ h => h) hHeld (by rfl) ?_ ?_
        rotate_left 1
        · (intro w hSw; (try dsimp only at hSw); go_simp; all_goals with_reducible rfl)
        try simp only [Act.put, List.setIfInBounds_toArray, List.set_cons_zero, List.set_cons_succ]
        refine take_ 9 (v := ?_) rfl (by kernel_rfl) (by kernel_rfl) (by kernel_rfl) (fun _ _ _ h => h) hHeld (by rfl) ?_ ?_
        rotate_left 1
        · (intro w hSw; (try dsimp only at hSw); go_simp; all_goals with_reducible rfl)
        try simp only [Act.put, List.setIfInBounds_toArray, List.set_cons_zero, List.set_cons_succ]
        refine take_ 10 (v := ?_) rfl (by kernel_rfl) (by kernel_rfl) (by kernel_rfl) (fun _ _ _ h => h) hHeld (by rfl) ?_ ?_
        rotate_left 1
        · (intro w hSw; (try dsimp only at hSw); go_simp; all_goals with_reducible rfl)
        try simp only [Act.put, List.setIfInBounds_toArray, List.set_cons_zero, List.set_cons_succ]
        refine take_ 11 (v := ?_) rfl (by kernel_rfl) (by kernel_rfl) (by kernel_rfl) (fun _ _ _ h => h) hHeld (by rfl) ?_ ?_
        rotate_left 1
        · (intro w hSw; (try dsimp only at hSw); go_simp; all_goals with_reducible rfl)
        try simp only [Act.put, List.setIfInBounds_toArray, List.set_cons_zero, List.set_cons_succ]
        refine take_ 12 (v := ?_) rfl (by kernel_rfl) (by kernel_rfl) (by kernel_rfl) (fun _ _ _ h => h) hHeld (by rfl) ?_ ?_
        rotate_left 1
        · (intro w hSw; (try dsimp only at hSw); go_simp; all_goals with_reducible rfl)
        try simp only [Act.put, List.setIfInBounds_toArray, List.set_cons_zero, List.set_cons_succ]
        refine take_ 13 (v := ?_) rfl (by kernel_rfl) (by kernel_rfl) (by kernel_rfl) (fun _ _ _ h => h) hHeld (by rfl) ?_ ?_
        rotate_left 1
        · (intro w hSw; (try dsimp only at hSw); go_simp; all_goals with_reducible rfl)
        try simp only [Act.put, List.setIfInBounds_toArray, List.set_cons_zero, List.set_cons_succ]
        refine take_ 14 (v := ?_) rfl (by kernel_rfl) (by kernel_rfl) (by kernel_rfl) (fun _ _ _ h => h) hHeld (by rfl) ?_ ?_
        rotate_left 1
        · (intro w hSw; (try dsimp only at hSw); go_simp; all_goals with_reducible rfl)
        try simp only [Act.put, List.setIfInBounds_toArray, List.set_cons_zero, List.set_cons_succ]
        refine take_ 15 (v := ?_) rfl (by kernel_rfl) (by kernel_rfl) (by kernel_rfl) (fun _ _ _ h => h) hHeld (by rfl) ?_ ?_
        rotate_left 1
        · (intro w hSw; (try dsimp only at hSw); go_simp; all_goals with_reducible rfl)
        try simp only [Act.put, List.setIfInBounds_toArray, List.set_cons_zero, List.set_cons_succ]
        refine take_ 16 (v := ?_) rfl (by kernel_rfl) (by kernel_rfl) (by kernel_rfl) (fun _ _ _ h => h) hHeld (by rfl) ?_ ?_
        rotate_left 1
        · (intro w hSw; (try dsimp only at hSw); go_simp; all_goals with_reducible rfl)
        try simp only [Act.put, List.setIfInBounds_toArray, List.set_cons_zero, List.set_cons_succ]
        refine take_ 17 (v := ?_) rfl (by kernel_rfl) (by kernel_rfl) (by kernel_rfl) (fun _ _ _ h => h) hHeld (by rfl) ?_ ?_
        rotate_left 1
        · (intro w hSw; (try dsimp only at hSw); go_simp; all_goals with_reducible rfl)
        try simp only [Act.put, List.setIfInBounds_toArray, List.set_cons_zero, List.set_cons_succ]
        refine take_ 18 (v := ?_) rfl (by kernel_rfl) (by kernel_rfl) (by kernel_rfl) (fun _ _ _ h => h) hHeld (by rfl) ?_ ?_
        rotate_left 1
        · (intro w hSw; (try dsimp only at hSw); go_simp; all_goals with_reducible rfl)
        try simp only [Act.put, List.setIfInBounds_toArray, List.set_cons_zero, List.set_cons_succ]
        refine take_ 19 (v := ?_) rfl (by kernel_rfl) (by kernel_rfl) (by kernel_rfl) (fun _ _ _ h => h) hHeld (by rfl) ?_ ?_
        rotate_left 1
        · (intro w hSw; (try dsimp only at hSw); go_simp; all_goals with_reducible rfl)
        try simp only [Act.put, List.setIfInBounds_toArray, List.set_cons_zero, List.set_cons_succ]
        refine take_ 20 (v := ?_) rfl (by kernel_rfl) (by kernel_rfl) (by kernel_rfl) (fun _ _ _ h => h) hHeld (by rfl) ?_ ?_
        rotate_left 1
        · (intro w hSw; (try dsimp only at hSw); go_simp; all_goals with_reducible rfl)
        try simp only [Act.put, List.setIfInBounds_toArray, List.set_cons_zero, List.set_cons_succ]
        refine take_ 21 (v := ?_) rfl (by kernel_rfl) (by kernel_rfl) (by kernel_rfl) (fun _ _ _ h => h) hHeld (by rfl) ?_ ?_
        rotate_left 1
        · (intro w hSw; (try dsimp only at hSw); go_simp; all_goals with_reducible rfl)
        try simp only [Act.put, List.setIfInBounds_toArray, List.set_cons_zero, List.set_cons_succ]
        refine take_ 22 (v := ?_) rfl (by kernel_rfl) (by kernel_rfl) (by kernel_rfl) (fun _ _ _ h => h) hHeld (by rfl) ?_ ?_
        rotate_left 1
        · (intro w hSw; (try dsimp only at hSw); go_simp; all_goals with_reducible rfl)
        try simp only [Act.put, List.setIfInBounds_toArray, List.set_cons_zero, List.set_cons_succ]
        refine wpAnyH_done (by kernel_rfl) ?_ _
        refine NoPanic.normal ?_
        have HH := Lib.hid hHeld.1
        have k0 := hHeld.2.2.2.1
        clear hHeld
        go_wp2
        go_roundw
        case rel => exact ⟨k + 1, by omega, by go_num, by rw [HS2.out], by rw [HS2.out]; omega, HX.out.trans HH.out⟩
        case measure => simp [intOf]; omega
    · have e : k = n := by omega
      subst e
      have i1 : ¬ ((k : Int) < (k : Int)) := by omega
      have i3 : ¬ ((k : Int) < (L1.length : Int) + (L2.length : Int)) := by omega
      have HM : Hid (nSign (L.take k) = if neg then 1 else 0) := Lib.hid (by rw [HTK.out]; exact HSN.out)
      rw [HM.out]
      have HLV := Lib.hid (HLIV.out wr (HX12.out.trans hx))
      cases neg
      all_goals go_wp2_with (go_at_call 23; with_reducible refine HLV.out.mono ?_; rintro e w13 ⟨rfl, hx13⟩)
      all_goals go_ret
      all_goals exact ⟨rfl, HX3.out.trans ((HX12.out.trans hx).trans hx13)⟩
end Go.Proofs.YtdkjkbbibdppoaaGreatDoor.Loc
