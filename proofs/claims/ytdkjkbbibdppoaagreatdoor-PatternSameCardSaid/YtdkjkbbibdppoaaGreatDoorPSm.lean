/- The document's own: whether two patterns are the same. (Printed by wip/gen/same10.py.) -/
import Derived.Test.YtdkjkbbibdppoaaGreatDoorPRef
import Derived.Test.YtdkjkbbibdppoaaGreatDoorPatS
import Derived.Laws.StructEq
import Derived.Deep.MidRow
namespace Go.Proofs.YtdkjkbbibdppoaaGreatDoor.Pat
open Go.RowKit Utf All Small Strs Build EncC
set_option linter.unusedVariables false
set_option linter.unusedSimpArgs false

theorem bStruct : Tryz.prog.underlying 106 = some (.struct (Tryz.prog.fieldsOf 106)) := by kernel_rfl
theorem bHeld : Tryz.prog.stoodInHeld 106 = false := by kernel_rfl
theorem bGuard : Tryz.prog.eqGuardType Tryz.prog.depth 106 = false := by kernel_rfl
theorem neq_b (x y : Pc) (w : World) : (binOp .neq 106 (.agg #[.int .i64 x.1, .string ⟨x.2.toArray⟩]) (.agg #[.int .i64 y.1, .string ⟨y.2.toArray⟩])).run Tryz.prog w = .ok (.bool (!decide (x = y))) w := by
  have u3 := Tryz.underlying3
  have a3 := Tryz.isAgg3
  have z3 := Tryz.sizeOf3
  have u9 := Tryz.underlying9
  have a9 := Tryz.isAgg9
  have z9 := Tryz.sizeOf9
  obtain ⟨k, t⟩ := x
  obtain ⟨j, u⟩ := y
  rw [run_neq_struct, show (10000 : Nat) = 9999 + 1 from rfl, run_equalIn_agg w 9999 106 _ _ bStruct bHeld]
  simp only [Program.fieldsOf, Tryz.underlying106]
  have hb := beq_strL ⟨t.toArray⟩ ⟨u.toArray⟩
  have hd : (⟨t.toArray⟩ : ByteArray).data.toList = t := rfl
  have hd2 : (⟨u.toArray⟩ : ByteArray).data.toList = u := rfl
  rw [hd, hd2] at hb
  go_simp
  by_cases h1 : k = j <;> by_cases h2 : t = u <;> simp [h1, h2, hb]
set_option maxHeartbeats 4000000 in
set_option maxRecDepth 100000 in
theorem samep_ (A B : Option Addr) (c d : Nat) (l m : List Pc) (w : World) (hA : Row w A (pcsV l)) (hB : Row w B (pcsV m)) (hl : l.length ≤ 10000000000) (hm : m.length ≤ 10000000000) :
    Calls Tryz.prog 59 #[.slice A l.length c, .slice B m.length d] w fun e w' => e = .returned (.bool (decide (l = m))) ∧ Ext w w' := by
  by_cases hn : l.length = m.length
  · have HN : Hid (l.length = m.length) := Lib.hid hn
    have hb : (((l.length : Nat) : Int) == ((m.length : Nat) : Int)) = true := by rw [hn]; simp
    clear hn
    go_enter Tryz.func59, Tryz.ntmps59
    go_wp2
    go_loopw [5] (fun i wr => ∃ k : Nat, k ≤ l.length ∧ i = .int .i64 k ∧ Ext w wr ∧ Hid (l.take k = m.take k)) (fun i _ => l.length - (intOf i).toNat)
    case atStart => exact ⟨0, Nat.zero_le _, rfl, Ext.refl _, Lib.hid (by simp)⟩
    case round =>
      obtain ⟨k, hk, rfl, hx, HK⟩ := hrel
      by_cases hlt : k < l.length
      · have hlt2 : k < m.length := by have := HN.out; omega
        obtain ⟨b1, o1, rfl, hc1, hc2⟩ := row_pc (hA.below hx (Nat.le_refl _)) hlt
        obtain ⟨b2, o2, rfl, hd1, hd2⟩ := row_pc (hB.below hx (Nat.le_refl _)) hlt2
        have HR := Lib.hid (pc_range hc1 hc2)
        have HS := Lib.hid (pc_range hd1 hd2)
        have HX := Lib.hid hx
        have HT : Hid (l.take (k + 1) = l.take k ++ [l[k]]) := Lib.hid (List.take_succ_eq_append_getElem hlt)
        have HT2 : Hid (m.take (k + 1) = m.take k ++ [m[k]]) := Lib.hid (List.take_succ_eq_append_getElem hlt2)
        have HG1 : Hid (l[k]? = some l[k]) := Lib.hid (List.getElem?_eq_getElem hlt)
        have HG2 : Hid (m[k]? = some m[k]) := Lib.hid (List.getElem?_eq_getElem hlt2)
        have hgd : ∀ (x y : Pc) (o1 o2 : Operand) (w : World), (eqGuard .neq 106 o1 o2 (.agg #[.int .i64 x.1, .string ⟨x.2.toArray⟩]) (.agg #[.int .i64 y.1, .string ⟨y.2.toArray⟩])).run Tryz.prog w = .ok () w := fun _ _ _ _ w => run_eqGuard_agg w .neq 106 _ _ _ _ bGuard
        clear hx
        generalize l[k] = x at *
        generalize m[k] = y at *
        have hnp := neq_b x y
        by_cases he : x = y
        · have HE := Lib.hid he
          rw [decide_eq_true he] at hnp
          clear he
          go_wp2
          go_region_held3 (fun W => W.cell? ⟨b1, o1 + k * 2, none⟩ = some (.int .i64 x.1) ∧ W.cell? ⟨b1, o1 + k * 2 + 1, none⟩ = some (.string ⟨x.2.toArray⟩) ∧ W.cell? ⟨b2, o2 + k * 2, none⟩ = some (.int .i64 y.1) ∧ W.cell? ⟨b2, o2 + k * 2 + 1, none⟩ = some (.string ⟨y.2.toArray⟩))
            (first | exact ⟨hc1, hc2, hd1, hd2⟩ | assumption) (fail)
          all_goals go_wp2
          all_goals exact ⟨⟨k + 1, by omega, by go_num, Ext.drew_ HX.out, Lib.hid (by rw [HT.out, HT2.out, HK.out, HE.out])⟩, by simp [intOf]; omega⟩
        · have HE : Hid (decide (l = m) = false) := Lib.hid (by
            rw [decide_eq_false_iff_not]
            intro e
            have h1 := HG1.out
            rw [e, HG2.out] at h1
            exact he (Option.some.inj h1).symm)
          rw [decide_eq_false he] at hnp
          clear he
          go_wp2
          go_region_held3 (fun W => W.cell? ⟨b1, o1 + k * 2, none⟩ = some (.int .i64 x.1) ∧ W.cell? ⟨b1, o1 + k * 2 + 1, none⟩ = some (.string ⟨x.2.toArray⟩) ∧ W.cell? ⟨b2, o2 + k * 2, none⟩ = some (.int .i64 y.1) ∧ W.cell? ⟨b2, o2 + k * 2 + 1, none⟩ = some (.string ⟨y.2.toArray⟩))
            (first | exact ⟨hc1, hc2, hd1, hd2⟩ | assumption) (fail)
          all_goals go_wp2
          all_goals go_ret
          all_goals exact ⟨by rw [HE.out]; rfl, Ext.drew_ HX.out⟩
      · have e : k = l.length := by omega
        subst e
        have HE : Hid (decide (l = m) = true) := Lib.hid (by
          rw [decide_eq_true_iff]
          have h1 := HK.out
          rw [List.take_length, HN.out, List.take_length] at h1
          exact h1)
        go_wp2
        go_ret
        exact ⟨by rw [HE.out]; rfl, hx⟩
  · have hb : (((l.length : Nat) : Int) == ((m.length : Nat) : Int)) = false := by simp; omega
    have HE : Hid (decide (l = m) = false) := Lib.hid (by
      rw [decide_eq_false_iff_not]
      rintro rfl
      exact hn rfl)
    clear hn
    go_enter Tryz.func59, Tryz.ntmps59
    go_wp2
    go_ret
    exact ⟨by rw [HE.out]; rfl, Ext.refl _⟩
theorem samep_n (A B : Option Addr) (c d n k : Nat) (l m : List Pc) (w : World) (hn : l.length = n) (hk : m.length = k) (hA : Row w A (pcsV l)) (hB : Row w B (pcsV m)) (hl : l.length ≤ 10000000000) (hm : m.length ≤ 10000000000) :
    Calls Tryz.prog 59 #[.slice A n c, .slice B k d] w fun e w' => e = .returned (.bool (decide (l = m))) ∧ Ext w w' := by
  subst hn; subst hk; exact samep_ A B c d l m w hA hB hl hm

set_option maxHeartbeats 4000000 in
set_option maxRecDepth 100000 in
theorem same_ref (A B C D A' B' C' D' : Option Addr) (c d a b c' d' a' b' : Nat) (p q : Pt) (w : World) (hp : PtR w A B C D p) (hq : PtR w A' B' C' D' q) (bp : PtB p) (bq : PtB q) :
    Calls Tryz.prog 15 #[ptV A B C D c d a b p, ptV A' B' C' D' c' d' a' b' q] w fun e w' => e = .returned (.bool (decide (p = q))) ∧ Ext w w' := by
  unfold ptV
  obtain ⟨p0, p1, p2, p3, ⟨x4, x5, x6, x7, x8⟩⟩ := p
  obtain ⟨q0, q1, q2, q3, ⟨y4, y5, y6, y7, y8⟩⟩ := q
  obtain ⟨bp0, bp1, bp2, bp3⟩ := bp
  obtain ⟨bq0, bq1, bq2, bq3⟩ := bq
  simp only at bp0 bp1 bp2 bp3 bq0 bq1 bq2 bq3
  generalize hu : patC (.slice A p0.length c) (.slice B p1.length d) (.slice C p2.length a) (.slice D p3.length b) ⟨x4, x5, x6, x7, x8⟩ = u
  generalize hv : patC (.slice A' q0.length c') (.slice B' q1.length d') (.slice C' q2.length a') (.slice D' q3.length b') ⟨y4, y5, y6, y7, y8⟩ = v
  have hb1 := (Box.new w 35 u).alloc (.cells v.toArray 35)
  have hb2 : Box ((w.alloc (.cells u.toArray 35)).alloc (.cells v.toArray 35)) (w.heap.size + 1) 35 v := by
    have := Box.new (w.alloc (.cells u.toArray 35)) 35 v
    rwa [World.size_alloc] at this
  have hx0 : Ext w ((w.alloc (.cells u.toArray 35)).alloc (.cells v.toArray 35)) := Ext.alloc_ (Ext.alloc_ (Ext.refl w) _) _
  go_enter Tryz.func15, Tryz.ntmps15
  go_upto_region 1 with fail
  change Code.wp _ _ _ _ ((w.alloc (.cells u.toArray 35)).alloc (.cells v.toArray 35))
  generalize (w.alloc (.cells u.toArray 35)).alloc (.cells v.toArray 35) = w2 at *
  subst hu
  subst hv
  have k0 := hb1.cell (j := 0) (v := .slice A p0.length c) rfl
  have l0 := hb2.cell (j := 0) (v := .slice A' q0.length c') rfl
  have k1 := hb1.cell (j := 1) (v := .slice B p1.length d) rfl
  have l1 := hb2.cell (j := 1) (v := .slice B' q1.length d') rfl
  have k2 := hb1.cell (j := 2) (v := .slice C p2.length a) rfl
  have l2 := hb2.cell (j := 2) (v := .slice C' q2.length a') rfl
  have k3 := hb1.cell (j := 3) (v := .slice D p3.length b) rfl
  have l3 := hb2.cell (j := 3) (v := .slice D' q3.length b') rfl
  have k4 := hb1.cell (j := 4) (v := .int .i64 x4) rfl
  have l4 := hb2.cell (j := 4) (v := .int .i64 y4) rfl
  have k5 := hb1.cell (j := 5) (v := .int .i64 x5) rfl
  have l5 := hb2.cell (j := 5) (v := .int .i64 y5) rfl
  have k6 := hb1.cell (j := 6) (v := .int .i64 x6) rfl
  have l6 := hb2.cell (j := 6) (v := .int .i64 y6) rfl
  have k7 := hb1.cell (j := 7) (v := .int .i64 x7) rfl
  have l7 := hb2.cell (j := 7) (v := .int .i64 y7) rfl
  have k8 := hb1.cell (j := 8) (v := .int .i64 x8) rfl
  have l8 := hb2.cell (j := 8) (v := .int .i64 y8) rfl
  have HX := Lib.hid hx0
  have HP := Lib.hid (hp.ext hx0)
  have HQ := Lib.hid (hq.ext hx0)
  have hE2 : Ext w2 w2 := Ext.refl w2
  clear hx0 hb1 hb2 hp hq
  go_wp2_with fail
  refine (samep_n _ _ _ _ _ _ p0 q0 w2 rfl rfl (HP.out.ext hE2).1 (HQ.out.ext hE2).1 (by omega) (by omega)).mono ?_; rintro e w3 ⟨rfl, hx3⟩
  have hE3 := hE2.trans hx3
  clear hx3
  have k1_0 := Ext.cell_ hE3 k1
  have l1_0 := Ext.cell_ hE3 l1
  obtain ⟨c0, hc0⟩ : ∃ c, c = decide (p0 = q0) := ⟨_, rfl⟩
  rw [← hc0]
  have HC0 := Lib.hid hc0
  clear hc0
  go_wp2_with fail
  refine (samep_n _ _ _ _ _ _ p1 q1 w3 rfl rfl (HP.out.ext hE3).2.1 (HQ.out.ext hE3).2.1 (by omega) (by omega)).mono ?_; rintro e w4 ⟨rfl, hx4⟩
  have hE4 := hE3.trans hx4
  clear hx4
  have k2_1 := Ext.cell_ hE4 k2
  have l2_1 := Ext.cell_ hE4 l2
  obtain ⟨c1, hc1⟩ : ∃ c, c = decide (p1 = q1) := ⟨_, rfl⟩
  rw [← hc1]
  have HC1 := Lib.hid hc1
  clear hc1
  go_wp2_with fail
  refine (samep_n _ _ _ _ _ _ p2 q2 w4 rfl rfl (HP.out.ext hE4).2.2.1 (HQ.out.ext hE4).2.2.1 (by omega) (by omega)).mono ?_; rintro e w5 ⟨rfl, hx5⟩
  have hE5 := hE4.trans hx5
  clear hx5
  have k3_2 := Ext.cell_ hE5 k3
  have l3_2 := Ext.cell_ hE5 l3
  obtain ⟨c2, hc2⟩ : ∃ c, c = decide (p2 = q2) := ⟨_, rfl⟩
  rw [← hc2]
  have HC2 := Lib.hid hc2
  clear hc2
  go_wp2_with fail
  refine (samep_n _ _ _ _ _ _ p3 q3 w5 rfl rfl (HP.out.ext hE5).2.2.2 (HQ.out.ext hE5).2.2.2 (by omega) (by omega)).mono ?_; rintro e w6 ⟨rfl, hx6⟩
  have hE6 := hE5.trans hx6
  clear hx6
  have k4_3 := Ext.cell_ hE6 k4
  have l4_3 := Ext.cell_ hE6 l4
  have k5_3 := Ext.cell_ hE6 k5
  have l5_3 := Ext.cell_ hE6 l5
  have k6_3 := Ext.cell_ hE6 k6
  have l6_3 := Ext.cell_ hE6 l6
  have k7_3 := Ext.cell_ hE6 k7
  have l7_3 := Ext.cell_ hE6 l7
  have k8_3 := Ext.cell_ hE6 k8
  have l8_3 := Ext.cell_ hE6 l8
  obtain ⟨c3, hc3⟩ : ∃ c, c = decide (p3 = q3) := ⟨_, rfl⟩
  rw [← hc3]
  have HC3 := Lib.hid hc3
  clear hc3
  cases c0
  · have HD : Hid (decide ((⟨p0, p1, p2, p3, ⟨x4, x5, x6, x7, x8⟩⟩ : Pt) = ⟨q0, q1, q2, q3, ⟨y4, y5, y6, y7, y8⟩⟩) = false) := Lib.hid (decide_eq_false fun e => of_decide_eq_false HC0.out.symm (congrArg Pt.pre e))
    go_wp2
    go_ret
    exact ⟨by rw [HD.out]; rfl, HX.out.trans hE6⟩
  cases c1
  · have HD : Hid (decide ((⟨p0, p1, p2, p3, ⟨x4, x5, x6, x7, x8⟩⟩ : Pt) = ⟨q0, q1, q2, q3, ⟨y4, y5, y6, y7, y8⟩⟩) = false) := Lib.hid (decide_eq_false fun e => of_decide_eq_false HC1.out.symm (congrArg Pt.suf e))
    go_wp2
    go_ret
    exact ⟨by rw [HD.out]; rfl, HX.out.trans hE6⟩
  cases c2
  · have HD : Hid (decide ((⟨p0, p1, p2, p3, ⟨x4, x5, x6, x7, x8⟩⟩ : Pt) = ⟨q0, q1, q2, q3, ⟨y4, y5, y6, y7, y8⟩⟩) = false) := Lib.hid (decide_eq_false fun e => of_decide_eq_false HC2.out.symm (congrArg Pt.npre e))
    go_wp2
    go_ret
    exact ⟨by rw [HD.out]; rfl, HX.out.trans hE6⟩
  cases c3
  · have HD : Hid (decide ((⟨p0, p1, p2, p3, ⟨x4, x5, x6, x7, x8⟩⟩ : Pt) = ⟨q0, q1, q2, q3, ⟨y4, y5, y6, y7, y8⟩⟩) = false) := Lib.hid (decide_eq_false fun e => of_decide_eq_false HC3.out.symm (congrArg Pt.nsuf e))
    go_wp2
    go_ret
    exact ⟨by rw [HD.out]; rfl, HX.out.trans hE6⟩
  by_cases h4 : x4 = y4
  rotate_left
  · have HD : Hid (decide ((⟨p0, p1, p2, p3, ⟨x4, x5, x6, x7, x8⟩⟩ : Pt) = ⟨q0, q1, q2, q3, ⟨y4, y5, y6, y7, y8⟩⟩) = false) := Lib.hid (decide_eq_false fun e => h4 (congrArg (fun z : Pt => z.num.prim) e))
    have hb : (x4 == y4) = false := by simpa using h4
    clear h4
    go_wp2
    go_ret
    exact ⟨by rw [HD.out]; rfl, HX.out.trans hE6⟩
  have hb4 : (x4 == y4) = true := by simpa using h4
  have HH4 := Lib.hid h4
  clear h4
  by_cases h5 : x5 = y5
  rotate_left
  · have HD : Hid (decide ((⟨p0, p1, p2, p3, ⟨x4, x5, x6, x7, x8⟩⟩ : Pt) = ⟨q0, q1, q2, q3, ⟨y4, y5, y6, y7, y8⟩⟩) = false) := Lib.hid (decide_eq_false fun e => h5 (congrArg (fun z : Pt => z.num.sec) e))
    have hb : (x5 == y5) = false := by simpa using h5
    clear h5
    go_wp2
    go_ret
    exact ⟨by rw [HD.out]; rfl, HX.out.trans hE6⟩
  have hb5 : (x5 == y5) = true := by simpa using h5
  have HH5 := Lib.hid h5
  clear h5
  by_cases h6 : x6 = y6
  rotate_left
  · have HD : Hid (decide ((⟨p0, p1, p2, p3, ⟨x4, x5, x6, x7, x8⟩⟩ : Pt) = ⟨q0, q1, q2, q3, ⟨y4, y5, y6, y7, y8⟩⟩) = false) := Lib.hid (decide_eq_false fun e => h6 (congrArg (fun z : Pt => z.num.minInt) e))
    have hb : (x6 == y6) = false := by simpa using h6
    clear h6
    go_wp2
    go_ret
    exact ⟨by rw [HD.out]; rfl, HX.out.trans hE6⟩
  have hb6 : (x6 == y6) = true := by simpa using h6
  have HH6 := Lib.hid h6
  clear h6
  by_cases h7 : x7 = y7
  rotate_left
  · have HD : Hid (decide ((⟨p0, p1, p2, p3, ⟨x4, x5, x6, x7, x8⟩⟩ : Pt) = ⟨q0, q1, q2, q3, ⟨y4, y5, y6, y7, y8⟩⟩) = false) := Lib.hid (decide_eq_false fun e => h7 (congrArg (fun z : Pt => z.num.minFrac) e))
    have hb : (x7 == y7) = false := by simpa using h7
    clear h7
    go_wp2
    go_ret
    exact ⟨by rw [HD.out]; rfl, HX.out.trans hE6⟩
  have hb7 : (x7 == y7) = true := by simpa using h7
  have HH7 := Lib.hid h7
  clear h7
  by_cases h8 : x8 = y8
  rotate_left
  · have HD : Hid (decide ((⟨p0, p1, p2, p3, ⟨x4, x5, x6, x7, x8⟩⟩ : Pt) = ⟨q0, q1, q2, q3, ⟨y4, y5, y6, y7, y8⟩⟩) = false) := Lib.hid (decide_eq_false fun e => h8 (congrArg (fun z : Pt => z.num.maxFrac) e))
    have hb : (x8 == y8) = false := by simpa using h8
    clear h8
    go_wp2
    go_ret
    exact ⟨by rw [HD.out]; rfl, HX.out.trans hE6⟩
  have hb8 : (x8 == y8) = true := by simpa using h8
  have HH8 := Lib.hid h8
  clear h8
  have HD : Hid (decide ((⟨p0, p1, p2, p3, ⟨x4, x5, x6, x7, x8⟩⟩ : Pt) = ⟨q0, q1, q2, q3, ⟨y4, y5, y6, y7, y8⟩⟩) = true) := Lib.hid (decide_eq_true (by
    rw [of_decide_eq_true HC0.out.symm, of_decide_eq_true HC1.out.symm, of_decide_eq_true HC2.out.symm, of_decide_eq_true HC3.out.symm, HH4.out, HH5.out, HH6.out, HH7.out, HH8.out]))
  go_wp2
  go_ret
  exact ⟨by rw [HD.out]; rfl, HX.out.trans hE6⟩
end Go.Proofs.YtdkjkbbibdppoaaGreatDoor.Pat
