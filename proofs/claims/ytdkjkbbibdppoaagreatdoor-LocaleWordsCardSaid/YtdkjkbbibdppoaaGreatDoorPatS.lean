/- Patterns of numbers: whether two are the same; pieces' texts. (Printed by wip/gen/same.py.) -/
import Derived.Test.YtdkjkbbibdppoaaGreatDoorPatL
namespace Go.Proofs.YtdkjkbbibdppoaaGreatDoor.Pat
open Go.RowKit Utf All Small Strs Build EncC
set_option linter.unusedVariables false
set_option linter.unusedSimpArgs false

/-- a pattern's value, and where its pieces lie -/
def ptV (A B C D : Option Addr) (c d a b : Nat) (p : Pt) : Value := .agg (patC (.slice A p.pre.length c) (.slice B p.suf.length d) (.slice C p.npre.length a) (.slice D p.nsuf.length b) p.num).toArray
def PtR (w : World) (A B C D : Option Addr) (p : Pt) : Prop := Row w A (pcsV p.pre) ∧ Row w B (pcsV p.suf) ∧ Row w C (pcsV p.npre) ∧ Row w D (pcsV p.nsuf)
theorem PtR.ext {w w' : World} {A B C D : Option Addr} {p : Pt} (h : PtR w A B C D p) (hx : Ext w w') : PtR w' A B C D p := ⟨h.1.below hx (Nat.le_refl _), h.2.1.below hx (Nat.le_refl _), h.2.2.1.below hx (Nat.le_refl _), h.2.2.2.below hx (Nat.le_refl _)⟩
def PtB (p : Pt) : Prop := p.pre.length ≤ 1000000000 ∧ p.suf.length ≤ 1000000000 ∧ p.npre.length ≤ 1000000000 ∧ p.nsuf.length ≤ 1000000000
set_option maxHeartbeats 4000000 in
set_option maxRecDepth 100000 in
theorem same_ (A B C D A' B' C' D' : Option Addr) (c d a b c' d' a' b' : Nat) (p q : Pt) (w : World) (hp : PtR w A B C D p) (hq : PtR w A' B' C' D' q) (bp : PtB p) (bq : PtB q) :
    Calls Tryz.prog 14 #[ptV A B C D c d a b p, ptV A' B' C' D' c' d' a' b' q] w fun e w' => e = .returned (.bool (decide (p = q))) ∧ Ext w w' := by
  unfold ptV
  obtain ⟨p0, p1, p2, p3, ⟨x4, x5, x6, x7, x8⟩⟩ := p
  obtain ⟨q0, q1, q2, q3, ⟨y4, y5, y6, y7, y8⟩⟩ := q
  obtain ⟨bp0, bp1, bp2, bp3⟩ := bp
  obtain ⟨bq0, bq1, bq2, bq3⟩ := bq
  simp only at bp0 bp1 bp2 bp3 bq0 bq1 bq2 bq3
  generalize hu : patC (.slice A p0.length c) (.slice B p1.length d) (.slice C p2.length a) (.slice D p3.length b) ⟨x4, x5, x6, x7, x8⟩ = u
  generalize hv : patC (.slice A' q0.length c') (.slice B' q1.length d') (.slice C' q2.length a') (.slice D' q3.length b') ⟨y4, y5, y6, y7, y8⟩ = v
  have hb1 := (Box.new w 28 u).alloc (.cells v.toArray 28)
  have hb2 : Box ((w.alloc (.cells u.toArray 28)).alloc (.cells v.toArray 28)) (w.heap.size + 1) 28 v := by
    have := Box.new (w.alloc (.cells u.toArray 28)) 28 v
    rwa [World.size_alloc] at this
  have hx0 : Ext w ((w.alloc (.cells u.toArray 28)).alloc (.cells v.toArray 28)) := Ext.alloc_ (Ext.alloc_ (Ext.refl w) _) _
  go_enter Tryz.func14, Tryz.ntmps14
  go_upto_region 1 with fail
  change Code.wp _ _ _ _ ((w.alloc (.cells u.toArray 28)).alloc (.cells v.toArray 28))
  generalize (w.alloc (.cells u.toArray 28)).alloc (.cells v.toArray 28) = w2 at *
  subst hu
  subst hv
  have k0 := hb1.cell (j := 0) (v := .slice A p0.length c) rfl
  have l0 := hb2.cell (j := 0) (v := .slice A' q0.length c') rfl
  have k1 := hb1.cell (j := 1) (v := .slice B p1.length d) rfl
  have l1 := hb2.cell (j := 1) (v := .slice B' q1.length d') rfl
  have k2 := hb1.cell (j := 2) (v := .slice C p2.length a) rfl
  have l2 := hb2.cell (j := 2) (v := .slice C' q2.length a') rfl
  have k3 := hb1.cell (j := 3) (v := .slice D p3.length b) rfl
  have l3 := hb2.cell (j := 3) (v := .slice D' q3.length b') rfl
  have k4 := hb1.cell (j := 4) (v := .int .i64 x4) rfl
  have l4 := hb2.cell (j := 4) (v := .int .i64 y4) rfl
  have k5 := hb1.cell (j := 5) (v := .int .i64 x5) rfl
  have l5 := hb2.cell (j := 5) (v := .int .i64 y5) rfl
  have k6 := hb1.cell (j := 6) (v := .int .i64 x6) rfl
  have l6 := hb2.cell (j := 6) (v := .int .i64 y6) rfl
  have k7 := hb1.cell (j := 7) (v := .int .i64 x7) rfl
  have l7 := hb2.cell (j := 7) (v := .int .i64 y7) rfl
  have k8 := hb1.cell (j := 8) (v := .int .i64 x8) rfl
  have l8 := hb2.cell (j := 8) (v := .int .i64 y8) rfl
  have HX := Lib.hid hx0
  have HP := Lib.hid (hp.ext hx0)
  have HQ := Lib.hid (hq.ext hx0)
  have hE2 : Ext w2 w2 := Ext.refl w2
  clear hx0 hb1 hb2 hp hq
  go_wp2_with fail
  refine (equal_n _ _ _ _ _ _ p0 q0 w2 rfl rfl (HP.out.ext hE2).1 (HQ.out.ext hE2).1 (by omega) (by omega)).mono ?_; rintro e w3 ⟨rfl, hx3⟩
  have hE3 := hE2.trans hx3
  clear hx3
  have k1_0 := Ext.cell_ hE3 k1
  have l1_0 := Ext.cell_ hE3 l1
  by_cases h0 : p0 = q0
  rotate_left
  · have HD : Hid (decide ((⟨p0, p1, p2, p3, ⟨x4, x5, x6, x7, x8⟩⟩ : Pt) = ⟨q0, q1, q2, q3, ⟨y4, y5, y6, y7, y8⟩⟩) = false) := Lib.hid (decide_eq_false fun e => h0 (congrArg Pt.pre e))
    rw [decide_eq_false h0]
    clear h0
    go_wp2
    go_ret
    exact ⟨by rw [HD.out]; rfl, HX.out.trans hE3⟩
  rw [decide_eq_true h0]
  have HH0 := Lib.hid h0
  clear h0
  go_wp2_with fail
  refine (equal_n _ _ _ _ _ _ p1 q1 w3 rfl rfl (HP.out.ext hE3).2.1 (HQ.out.ext hE3).2.1 (by omega) (by omega)).mono ?_; rintro e w4 ⟨rfl, hx4⟩
  have hE4 := hE3.trans hx4
  clear hx4
  have k2_1 := Ext.cell_ hE4 k2
  have l2_1 := Ext.cell_ hE4 l2
  by_cases h1 : p1 = q1
  rotate_left
  · have HD : Hid (decide ((⟨p0, p1, p2, p3, ⟨x4, x5, x6, x7, x8⟩⟩ : Pt) = ⟨q0, q1, q2, q3, ⟨y4, y5, y6, y7, y8⟩⟩) = false) := Lib.hid (decide_eq_false fun e => h1 (congrArg Pt.suf e))
    rw [decide_eq_false h1]
    clear h1
    go_wp2
    go_ret
    exact ⟨by rw [HD.out]; rfl, HX.out.trans hE4⟩
  rw [decide_eq_true h1]
  have HH1 := Lib.hid h1
  clear h1
  go_wp2_with fail
  refine (equal_n _ _ _ _ _ _ p2 q2 w4 rfl rfl (HP.out.ext hE4).2.2.1 (HQ.out.ext hE4).2.2.1 (by omega) (by omega)).mono ?_; rintro e w5 ⟨rfl, hx5⟩
  have hE5 := hE4.trans hx5
  clear hx5
  have k3_2 := Ext.cell_ hE5 k3
  have l3_2 := Ext.cell_ hE5 l3
  by_cases h2 : p2 = q2
  rotate_left
  · have HD : Hid (decide ((⟨p0, p1, p2, p3, ⟨x4, x5, x6, x7, x8⟩⟩ : Pt) = ⟨q0, q1, q2, q3, ⟨y4, y5, y6, y7, y8⟩⟩) = false) := Lib.hid (decide_eq_false fun e => h2 (congrArg Pt.npre e))
    rw [decide_eq_false h2]
    clear h2
    go_wp2
    go_ret
    exact ⟨by rw [HD.out]; rfl, HX.out.trans hE5⟩
  rw [decide_eq_true h2]
  have HH2 := Lib.hid h2
  clear h2
  go_wp2_with fail
  refine (equal_n _ _ _ _ _ _ p3 q3 w5 rfl rfl (HP.out.ext hE5).2.2.2 (HQ.out.ext hE5).2.2.2 (by omega) (by omega)).mono ?_; rintro e w6 ⟨rfl, hx6⟩
  have hE6 := hE5.trans hx6
  clear hx6
  have k4_3 := Ext.cell_ hE6 k4
  have l4_3 := Ext.cell_ hE6 l4
  have k5_3 := Ext.cell_ hE6 k5
  have l5_3 := Ext.cell_ hE6 l5
  have k6_3 := Ext.cell_ hE6 k6
  have l6_3 := Ext.cell_ hE6 l6
  have k7_3 := Ext.cell_ hE6 k7
  have l7_3 := Ext.cell_ hE6 l7
  have k8_3 := Ext.cell_ hE6 k8
  have l8_3 := Ext.cell_ hE6 l8
  by_cases h3 : p3 = q3
  rotate_left
  · have HD : Hid (decide ((⟨p0, p1, p2, p3, ⟨x4, x5, x6, x7, x8⟩⟩ : Pt) = ⟨q0, q1, q2, q3, ⟨y4, y5, y6, y7, y8⟩⟩) = false) := Lib.hid (decide_eq_false fun e => h3 (congrArg Pt.nsuf e))
    rw [decide_eq_false h3]
    clear h3
    go_wp2
    go_ret
    exact ⟨by rw [HD.out]; rfl, HX.out.trans hE6⟩
  rw [decide_eq_true h3]
  have HH3 := Lib.hid h3
  clear h3
  by_cases h4 : x4 = y4
  rotate_left
  · have HD : Hid (decide ((⟨p0, p1, p2, p3, ⟨x4, x5, x6, x7, x8⟩⟩ : Pt) = ⟨q0, q1, q2, q3, ⟨y4, y5, y6, y7, y8⟩⟩) = false) := Lib.hid (decide_eq_false fun e => h4 (congrArg (fun z : Pt => z.num.prim) e))
    have hb : (x4 == y4) = false := by simpa using h4
    clear h4
    go_wp2
    go_ret
    exact ⟨by rw [HD.out]; rfl, HX.out.trans hE6⟩
  have hb4 : (x4 == y4) = true := by simpa using h4
  have HH4 := Lib.hid h4
  clear h4
  by_cases h5 : x5 = y5
  rotate_left
  · have HD : Hid (decide ((⟨p0, p1, p2, p3, ⟨x4, x5, x6, x7, x8⟩⟩ : Pt) = ⟨q0, q1, q2, q3, ⟨y4, y5, y6, y7, y8⟩⟩) = false) := Lib.hid (decide_eq_false fun e => h5 (congrArg (fun z : Pt => z.num.sec) e))
    have hb : (x5 == y5) = false := by simpa using h5
    clear h5
    go_wp2
    go_ret
    exact ⟨by rw [HD.out]; rfl, HX.out.trans hE6⟩
  have hb5 : (x5 == y5) = true := by simpa using h5
  have HH5 := Lib.hid h5
  clear h5
  by_cases h6 : x6 = y6
  rotate_left
  · have HD : Hid (decide ((⟨p0, p1, p2, p3, ⟨x4, x5, x6, x7, x8⟩⟩ : Pt) = ⟨q0, q1, q2, q3, ⟨y4, y5, y6, y7, y8⟩⟩) = false) := Lib.hid (decide_eq_false fun e => h6 (congrArg (fun z : Pt => z.num.minInt) e))
    have hb : (x6 == y6) = false := by simpa using h6
    clear h6
    go_wp2
    go_ret
    exact ⟨by rw [HD.out]; rfl, HX.out.trans hE6⟩
  have hb6 : (x6 == y6) = true := by simpa using h6
  have HH6 := Lib.hid h6
  clear h6
  by_cases h7 : x7 = y7
  rotate_left
  · have HD : Hid (decide ((⟨p0, p1, p2, p3, ⟨x4, x5, x6, x7, x8⟩⟩ : Pt) = ⟨q0, q1, q2, q3, ⟨y4, y5, y6, y7, y8⟩⟩) = false) := Lib.hid (decide_eq_false fun e => h7 (congrArg (fun z : Pt => z.num.minFrac) e))
    have hb : (x7 == y7) = false := by simpa using h7
    clear h7
    go_wp2
    go_ret
    exact ⟨by rw [HD.out]; rfl, HX.out.trans hE6⟩
  have hb7 : (x7 == y7) = true := by simpa using h7
  have HH7 := Lib.hid h7
  clear h7
  by_cases h8 : x8 = y8
  rotate_left
  · have HD : Hid (decide ((⟨p0, p1, p2, p3, ⟨x4, x5, x6, x7, x8⟩⟩ : Pt) = ⟨q0, q1, q2, q3, ⟨y4, y5, y6, y7, y8⟩⟩) = false) := Lib.hid (decide_eq_false fun e => h8 (congrArg (fun z : Pt => z.num.maxFrac) e))
    have hb : (x8 == y8) = false := by simpa using h8
    clear h8
    go_wp2
    go_ret
    exact ⟨by rw [HD.out]; rfl, HX.out.trans hE6⟩
  have hb8 : (x8 == y8) = true := by simpa using h8
  have HH8 := Lib.hid h8
  clear h8
  have HD : Hid (decide ((⟨p0, p1, p2, p3, ⟨x4, x5, x6, x7, x8⟩⟩ : Pt) = ⟨q0, q1, q2, q3, ⟨y4, y5, y6, y7, y8⟩⟩) = true) := Lib.hid (decide_eq_true (by
    rw [HH0.out, HH1.out, HH2.out, HH3.out, HH4.out, HH5.out, HH6.out, HH7.out, HH8.out]))
  go_wp2
  go_ret
  exact ⟨by rw [HD.out]; rfl, HX.out.trans hE6⟩

def resF (cur per min : List UInt8) (l : List Pc) : List UInt8 := l.flatMap fun p => if p.1 = 1 then cur else if p.1 = 2 then per else if p.1 = 3 then min else p.2
theorem resF_snoc (cur per min : List UInt8) {l : List Pc} {k : Nat} (hk : k < l.length) : resF cur per min (l.take (k + 1)) = resF cur per min (l.take k) ++ (if l[k].1 = 1 then cur else if l[k].1 = 2 then per else if l[k].1 = 3 then min else l[k].2) := by
  unfold resF; rw [List.take_succ_eq_append_getElem hk, List.flatMap_append]; simp
set_option maxHeartbeats 4000000 in
set_option maxRecDepth 100000 in
theorem resolve_ (A : Option Addr) (c : Nat) (cur per min : List UInt8) (l : List Pc) (w : World) (hA : Row w A (pcsV l)) (hl : l.length ≤ 1000) (hc : cur.length ≤ 100000) (hp : per.length ≤ 100000) (hm : min.length ≤ 100000) (hk : ∀ p ∈ l, p.2.length ≤ 100000) :
    Calls Tryz.prog 139 #[.slice A l.length c, .string ⟨cur.toArray⟩, .string ⟨per.toArray⟩, .string ⟨min.toArray⟩] w fun e w' => e = .returned (.string ⟨(resF cur per min l).toArray⟩) ∧ Ext w w' := by
  have HK := Lib.hid hk
  clear hk
  go_enter Tryz.func139, Tryz.ntmps139
  go_wp2
  go_loopw [9, 14] (fun s i wr => ∃ k : Nat, k ≤ l.length ∧ i = .int .i64 k ∧ Ext w wr ∧ s = .string ⟨(resF cur per min (l.take k)).toArray⟩ ∧ (resF cur per min (l.take k)).length ≤ 100000 * k) (fun _ i _ => l.length - (intOf i).toNat)
  case atStart => exact ⟨0, Nat.zero_le _, rfl, Ext.refl _, rfl, by simp [resF]⟩
  case round =>
    obtain ⟨k, hk, rfl, hx, rfl, hle⟩ := hrel
    by_cases hlt : k < l.length
    · obtain ⟨b, off, rfl, hc1, hc2⟩ := row_pc (hA.below hx (Nat.le_refl _)) hlt
      have HR := Lib.hid (pc_range hc1 hc2)
      have HS := Lib.hid (resF_snoc cur per min hlt)
      have ht := HK.out _ (List.getElem_mem hlt)
      generalize l[k] = x at *
      obtain ⟨j, t⟩ := x
      simp only at ht
      have hbx := Box.new wr 96 [.int .i64 j, .string ⟨t.toArray⟩]
      have HX : Hid (Ext w (wr.alloc (.cells #[.int .i64 j, .string ⟨t.toArray⟩] 96))) := Lib.hid (Ext.alloc_ hx _)
      clear hx
      by_cases h1 : j = 1
      · have HV : Hid ((if (j, t).1 = 1 then cur else if (j, t).1 = 2 then per else if (j, t).1 = 3 then min else (j, t).2) = cur) := Lib.hid (by simp only; rw [if_pos h1])
        have hb1 : (j == 1) = true := by simpa using h1
        clear h1
        go_wp2_with (first | (refine wpList_load_mid rfl 96 (.tmp 16) rfl b (off + k * 2) rfl [.int .i64 j, .string ⟨t.toArray⟩] _ HR.out Tryz.underlying96 rfl infoPc ?_))
        go_roundw
        case rel => exact ⟨k + 1, by omega, by go_num, HX.out, by rw [HS.out, HV.out, app_mk], by rw [HS.out, HV.out, List.length_append]; omega⟩
        case measure => simp [intOf]; omega
      by_cases h2 : j = 2
      · have HV : Hid ((if (j, t).1 = 1 then cur else if (j, t).1 = 2 then per else if (j, t).1 = 3 then min else (j, t).2) = per) := Lib.hid (by simp only; rw [if_neg h1, if_pos h2])
        have hb1 : (j == 1) = false := by simpa using h1
        have hb2 : (j == 2) = true := by simpa using h2
        clear h1 h2
        go_wp2_with (first | (refine wpList_load_mid rfl 96 (.tmp 16) rfl b (off + k * 2) rfl [.int .i64 j, .string ⟨t.toArray⟩] _ HR.out Tryz.underlying96 rfl infoPc ?_))
        go_roundw
        case rel => exact ⟨k + 1, by omega, by go_num, HX.out, by rw [HS.out, HV.out, app_mk], by rw [HS.out, HV.out, List.length_append]; omega⟩
        case measure => simp [intOf]; omega
      by_cases h3 : j = 3
      · have HV : Hid ((if (j, t).1 = 1 then cur else if (j, t).1 = 2 then per else if (j, t).1 = 3 then min else (j, t).2) = min) := Lib.hid (by simp only; rw [if_neg h1, if_neg h2, if_pos h3])
        have hb1 : (j == 1) = false := by simpa using h1
        have hb2 : (j == 2) = false := by simpa using h2
        have hb3 : (j == 3) = true := by simpa using h3
        clear h1 h2 h3
        go_wp2_with (first | (refine wpList_load_mid rfl 96 (.tmp 16) rfl b (off + k * 2) rfl [.int .i64 j, .string ⟨t.toArray⟩] _ HR.out Tryz.underlying96 rfl infoPc ?_))
        go_roundw
        case rel => exact ⟨k + 1, by omega, by go_num, HX.out, by rw [HS.out, HV.out, app_mk], by rw [HS.out, HV.out, List.length_append]; omega⟩
        case measure => simp [intOf]; omega
      have HV : Hid ((if (j, t).1 = 1 then cur else if (j, t).1 = 2 then per else if (j, t).1 = 3 then min else (j, t).2) = t) := Lib.hid (by simp only; rw [if_neg h1, if_neg h2, if_neg h3])
      have hb1 : (j == 1) = false := by simpa using h1
      have hb2 : (j == 2) = false := by simpa using h2
      have hb3 : (j == 3) = false := by simpa using h3
      clear h1 h2 h3
      go_wp2_with (first | (refine wpList_load_mid rfl 96 (.tmp 16) rfl b (off + k * 2) rfl [.int .i64 j, .string ⟨t.toArray⟩] _ HR.out Tryz.underlying96 rfl infoPc ?_))
      go_roundw
      case rel => exact ⟨k + 1, by omega, by go_num, HX.out, by rw [HS.out, HV.out, app_mk], by rw [HS.out, HV.out, List.length_append]; omega⟩
      case measure => simp [intOf]; omega
    · have e : k = l.length := by omega
      subst e
      rw [List.take_length]
      go_wp2
      go_ret
      exact ⟨rfl, hx⟩
end Go.Proofs.YtdkjkbbibdppoaaGreatDoor.Pat
