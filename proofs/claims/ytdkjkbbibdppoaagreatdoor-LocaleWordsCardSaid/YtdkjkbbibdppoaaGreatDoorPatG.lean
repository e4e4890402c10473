/- Patterns of numbers: Print, of patterns without decimals and groups, and with the plain negative half; pieces; whether pieces are the same; Resolve. -/
import Derived.Test.YtdkjkbbibdppoaaGreatDoorPatF
import Derived.Laws.StructEq
import Derived.Deep.MidRow
import Derived.Deep.RegionHeld3
import Derived.Deep.RegionWith
namespace Go.Proofs.YtdkjkbbibdppoaaGreatDoor.Pat
open Go.RowKit Utf All Small Strs Build EncC
set_option linter.unusedVariables false
set_option linter.unusedSimpArgs false

/-! ### slices.Equal over pieces -/
theorem pcStruct : Tryz.prog.underlying 96 = some (.struct (Tryz.prog.fieldsOf 96)) := by kernel_rfl
theorem pcHeld : Tryz.prog.stoodInHeld 96 = false := by kernel_rfl
theorem pcGuard : Tryz.prog.eqGuardType Tryz.prog.depth 96 = false := by kernel_rfl
theorem neq_pc (x y : Pc) (w : World) : (binOp .neq 96 (.agg #[.int .i64 x.1, .string ⟨x.2.toArray⟩]) (.agg #[.int .i64 y.1, .string ⟨y.2.toArray⟩])).run Tryz.prog w = .ok (.bool (!decide (x = y))) w := by
  have u3 := Tryz.underlying3
  have a3 := Tryz.isAgg3
  have z3 := Tryz.sizeOf3
  have u9 := Tryz.underlying9
  have a9 := Tryz.isAgg9
  have z9 := Tryz.sizeOf9
  obtain ⟨k, t⟩ := x
  obtain ⟨j, u⟩ := y
  rw [run_neq_struct, show (10000 : Nat) = 9999 + 1 from rfl, run_equalIn_agg w 9999 96 _ _ pcStruct pcHeld]
  simp only [Program.fieldsOf, Tryz.underlying96]
  have hb := beq_strL ⟨t.toArray⟩ ⟨u.toArray⟩
  have hd : (⟨t.toArray⟩ : ByteArray).data.toList = t := rfl
  have hd2 : (⟨u.toArray⟩ : ByteArray).data.toList = u := rfl
  rw [hd, hd2] at hb
  go_simp
  by_cases h1 : k = j <;> by_cases h2 : t = u <;> simp [h1, h2, hb]
set_option maxHeartbeats 4000000 in
set_option maxRecDepth 100000 in
theorem equal_ (A B : Option Addr) (c d : Nat) (l m : List Pc) (w : World) (hA : Row w A (pcsV l)) (hB : Row w B (pcsV m)) (hl : l.length ≤ 10000000000) (hm : m.length ≤ 10000000000) :
    Calls Tryz.prog 58 #[.slice A l.length c, .slice B m.length d] w fun e w' => e = .returned (.bool (decide (l = m))) ∧ Ext w w' := by
  by_cases hn : l.length = m.length
  · have HN : Hid (l.length = m.length) := Lib.hid hn
    have hb : (((l.length : Nat) : Int) == ((m.length : Nat) : Int)) = true := by rw [hn]; simp
    clear hn
    go_enter Tryz.func58, Tryz.ntmps58
    go_wp2
    go_loopw [5, 13] (fun _ i wr => ∃ k : Nat, k ≤ l.length ∧ i = .int .i64 k ∧ Ext w wr ∧ Hid (l.take k = m.take k)) (fun _ i _ => l.length - (intOf i).toNat)
    case atStart => exact ⟨0, Nat.zero_le _, rfl, Ext.refl _, Lib.hid (by simp)⟩
    case round =>
      obtain ⟨k, hk, rfl, hx, HK⟩ := hrel
      by_cases hlt : k < l.length
      · have hlt2 : k < m.length := by have := HN.out; omega
        obtain ⟨b1, o1, rfl, hc1, hc2⟩ := row_pc (hA.below hx (Nat.le_refl _)) hlt
        obtain ⟨b2, o2, rfl, hd1, hd2⟩ := row_pc (hB.below hx (Nat.le_refl _)) hlt2
        have HR := Lib.hid (pc_range hc1 hc2)
        have HS := Lib.hid (pc_range hd1 hd2)
        have HX := Lib.hid hx
        have HT : Hid (l.take (k + 1) = l.take k ++ [l[k]]) := Lib.hid (List.take_succ_eq_append_getElem hlt)
        have HT2 : Hid (m.take (k + 1) = m.take k ++ [m[k]]) := Lib.hid (List.take_succ_eq_append_getElem hlt2)
        have HG1 : Hid (l[k]? = some l[k]) := Lib.hid (List.getElem?_eq_getElem hlt)
        have HG2 : Hid (m[k]? = some m[k]) := Lib.hid (List.getElem?_eq_getElem hlt2)
        have hgd : ∀ (x y : Pc) (o1 o2 : Operand) (w : World), (eqGuard .neq 96 o1 o2 (.agg #[.int .i64 x.1, .string ⟨x.2.toArray⟩]) (.agg #[.int .i64 y.1, .string ⟨y.2.toArray⟩])).run Tryz.prog w = .ok () w := fun _ _ _ _ w => run_eqGuard_agg w .neq 96 _ _ _ _ pcGuard
        clear hx
        generalize l[k] = x at *
        generalize m[k] = y at *
        have hnp := neq_pc x y
        by_cases he : x = y
        · have HE := Lib.hid he
          rw [decide_eq_true he] at hnp
          clear he
          go_wp2
          go_region_held3 (fun W => W.cell? ⟨b1, o1 + k * 2, none⟩ = some (.int .i64 x.1) ∧ W.cell? ⟨b1, o1 + k * 2 + 1, none⟩ = some (.string ⟨x.2.toArray⟩) ∧ W.cell? ⟨b2, o2 + k * 2, none⟩ = some (.int .i64 y.1) ∧ W.cell? ⟨b2, o2 + k * 2 + 1, none⟩ = some (.string ⟨y.2.toArray⟩))
            (first | exact ⟨hc1, hc2, hd1, hd2⟩ | assumption) (fail)
          all_goals go_wp2
          all_goals exact ⟨⟨k + 1, by omega, by go_num, Ext.drew_ HX.out, Lib.hid (by rw [HT.out, HT2.out, HK.out, HE.out])⟩, by simp [intOf]; omega⟩
        · have HE : Hid (decide (l = m) = false) := Lib.hid (by
            rw [decide_eq_false_iff_not]
            intro e
            have h1 := HG1.out
            rw [e, HG2.out] at h1
            exact he (Option.some.inj h1).symm)
          rw [decide_eq_false he] at hnp
          clear he
          go_wp2
          go_region_held3 (fun W => W.cell? ⟨b1, o1 + k * 2, none⟩ = some (.int .i64 x.1) ∧ W.cell? ⟨b1, o1 + k * 2 + 1, none⟩ = some (.string ⟨x.2.toArray⟩) ∧ W.cell? ⟨b2, o2 + k * 2, none⟩ = some (.int .i64 y.1) ∧ W.cell? ⟨b2, o2 + k * 2 + 1, none⟩ = some (.string ⟨y.2.toArray⟩))
            (first | exact ⟨hc1, hc2, hd1, hd2⟩ | assumption) (fail)
          all_goals go_wp2
          all_goals go_ret
          all_goals exact ⟨by rw [HE.out]; rfl, Ext.drew_ HX.out⟩
      · have e : k = l.length := by omega
        subst e
        have HE : Hid (decide (l = m) = true) := Lib.hid (by
          rw [decide_eq_true_iff]
          have h1 := HK.out
          rw [List.take_length, HN.out, List.take_length] at h1
          exact h1)
        go_wp2
        go_ret
        exact ⟨by rw [HE.out]; rfl, hx⟩
  · have hb : (((l.length : Nat) : Int) == ((m.length : Nat) : Int)) = false := by simp; omega
    have HE : Hid (decide (l = m) = false) := Lib.hid (by
      rw [decide_eq_false_iff_not]
      rintro rfl
      exact hn rfl)
    clear hn
    go_enter Tryz.func58, Tryz.ntmps58
    go_wp2
    go_ret
    exact ⟨by rw [HE.out]; rfl, Ext.refl _⟩
theorem equal_n (A B : Option Addr) (c d n k : Nat) (l m : List Pc) (w : World) (hn : l.length = n) (hk : m.length = k) (hA : Row w A (pcsV l)) (hB : Row w B (pcsV m)) (hl : l.length ≤ 10000000000) (hm : m.length ≤ 10000000000) :
    Calls Tryz.prog 58 #[.slice A n c, .slice B k d] w fun e w' => e = .returned (.bool (decide (l = m))) ∧ Ext w w' := by
  subst hn; subst hk; exact equal_ A B c d l m w hA hB hl hm

/-! ### pieces, of literals alone -/
def litF (l : List Pc) : List UInt8 := l.flatMap fun p => escL p.2
theorem escF_len : ∀ (xs : List Int) (out run : List UInt8), (∀ x ∈ xs, mayC x = true) → (escF xs out run).length ≤ out.length + 2 * run.length + 2 + 8 * xs.length
  | [], out, run, _ => by have := escRun_len run; simp [escF]; omega
  | c :: r, out, run, h => by
    have hc := encB_len (h c (by simp))
    have hm := escRun_len run
    rw [escF]
    split
    · have := escF_len r out (run ++ encB c) (fun x hx => h x (by simp [hx]))
      simp only [List.length_append, List.length_cons] at this ⊢; omega
    · have := escF_len r (out ++ escRun run ++ encB c) [] (fun x hx => h x (by simp [hx]))
      simp only [List.length_append, List.length_cons, List.length_nil] at this ⊢; omega
theorem escL_len (s : List UInt8) : (escL s).length ≤ 2 + 8 * s.length := by
  have h1 := escF_len (charsL s) [] [] (charsL_may s)
  have h2 : (charsL s).length ≤ s.length := chars_len ⟨s.toArray⟩
  unfold escL
  simp only [List.length_nil] at h1; omega
theorem litF_snoc {l : List Pc} {k : Nat} (hk : k < l.length) : litF (l.take (k + 1)) = litF (l.take k) ++ escL l[k].2 := by
  unfold litF; rw [List.take_succ_eq_append_getElem hk, List.flatMap_append]; simp
set_option maxHeartbeats 4000000 in
set_option maxRecDepth 100000 in
theorem pieces_ (A : Option Addr) (c : Nat) (l : List Pc) (w : World) (hA : Row w A (pcsV l)) (h0 : 2 < w.heap.size) (HM : ∃ m, w.cell? ⟨2, 0, none⟩ = some (.int .i64 m)) (hl : l.length ≤ 1000) (hk : ∀ p ∈ l, p.1 = 0 ∧ p.2.length ≤ 100000) :
    Calls Tryz.prog 102 #[.slice A l.length c] w fun e w' => e = .returned (.string ⟨(litF l).toArray⟩) ∧ Ext w w' := by
  have HK := Lib.hid hk
  clear hk
  go_enter Tryz.func102, Tryz.ntmps102
  go_wp2
  go_loopw [3, 8] (fun s i wr => ∃ k : Nat, k ≤ l.length ∧ i = .int .i64 k ∧ Ext w wr ∧ s = .string ⟨(litF (l.take k)).toArray⟩ ∧ (litF (l.take k)).length ≤ 800002 * k) (fun _ i _ => l.length - (intOf i).toNat)
  case atStart => exact ⟨0, Nat.zero_le _, rfl, Ext.refl _, rfl, by simp [litF]⟩
  case round =>
    obtain ⟨k, hk, rfl, hx, rfl, hle⟩ := hrel
    by_cases hlt : k < l.length
    · obtain ⟨b, off, rfl, hc1, hc2⟩ := row_pc (hA.below hx (Nat.le_refl _)) hlt
      have HR := Lib.hid (pc_range hc1 hc2)
      have HS := Lib.hid (litF_snoc hlt)
      have hp := HK.out _ (List.getElem_mem hlt)
      generalize l[k] = x at *
      obtain ⟨j, t⟩ := x
      obtain ⟨hj, ht⟩ := hp
      simp only at hj ht
      subst hj
      have hbx := Box.new wr 96 [.int .i64 0, .string ⟨t.toArray⟩]
      have hxb : Ext w (wr.alloc (.cells #[.int .i64 0, .string ⟨t.toArray⟩] 96)) := Ext.alloc_ hx _
      have HX := Lib.hid hxb
      have hM2 : ∃ m, (wr.alloc (.cells #[.int .i64 0, .string ⟨t.toArray⟩] 96)).cell? ⟨2, 0, none⟩ = some (.int .i64 m) := by
        obtain ⟨m, hm⟩ := HM
        exact ⟨m, Ext.cell_ hxb hm⟩
      have hs2 : 2 < (wr.alloc (.cells #[.int .i64 0, .string ⟨t.toArray⟩] 96)).heap.size := by have := hxb.size; omega
      go_wp2_with (first | (refine wpList_load_mid rfl 96 (.tmp 10) rfl b (off + k * 2) rfl [.int .i64 0, .string ⟨t.toArray⟩] _ HR.out Tryz.underlying96 rfl infoPc ?_))
      have hel := escL_len t
      refine (escaped_ t _ hs2 hM2 (by omega)).mono ?_; rintro e w2 ⟨rfl, hx2⟩
      go_wp2
      go_roundw
      case rel => exact ⟨k + 1, by omega, by go_num, HX.out.trans hx2, by rw [HS.out, app_mk], by rw [HS.out, List.length_append]; omega⟩
      case measure => simp [intOf]; omega
    · have e : k = l.length := by omega
      subst e
      rw [List.take_length]
      go_wp2
      go_ret
      exact ⟨rfl, hx⟩

/-! ### a number's signs, of at most one digit -/
def sigB (m : Int) : List UInt8 := if m = 0 then [35] else [48]
set_option maxHeartbeats 4000000 in
set_option maxRecDepth 100000 in
theorem signed_ (S1 S2 S3 S4 : Value) (m : Int) (hm : m = 0 ∨ m = 1) (w : World) :
    Calls Tryz.prog 103 #[.agg (patC S1 S2 S3 S4 ⟨0, 0, m, 0, 0⟩).toArray] w fun e w' => e = .returned (.string ⟨(sigB m).toArray⟩) ∧ Ext w w' := by
  have hb1 := Box.new w 28 (patC S1 S2 S3 S4 ⟨0, 0, m, 0, 0⟩)
  have hx1 : Ext w (w.alloc (.cells (patC S1 S2 S3 S4 ⟨0, 0, m, 0, 0⟩).toArray 28)) := Ext.alloc_ (Ext.refl w) _
  have hs1 : (w.alloc (.cells (patC S1 S2 S3 S4 ⟨0, 0, m, 0, 0⟩).toArray 28)).heap.size = w.heap.size + 1 := by simp
  go_enter Tryz.func103, Tryz.ntmps103
  go_upto_region 1 with fail
  change Code.wp _ _ _ _ (w.alloc (.cells (patC S1 S2 S3 S4 ⟨0, 0, m, 0, 0⟩).toArray 28))
  generalize w.alloc (.cells (patC S1 S2 S3 S4 ⟨0, 0, m, 0, 0⟩).toArray 28) = w1 at *
  have k4 := hb1.cell (j := 4) (v := .int .i64 0) rfl
  have k5 := hb1.cell (j := 5) (v := .int .i64 0) rfl
  have k6 := hb1.cell (j := 6) (v := .int .i64 m) rfl
  have k7 := hb1.cell (j := 7) (v := .int .i64 0) rfl
  have k8 := hb1.cell (j := 8) (v := .int .i64 0) rfl
  have HX := Lib.hid hx1
  have hx2 : Ext w1 (w1.alloc (.cells #[] 3)) := Ext.alloc_ (Ext.refl _) _
  have HX2 := Lib.hid hx2
  have l4 := Ext.cell_ hx2 k4
  have l5 := Ext.cell_ hx2 k5
  have l6 := Ext.cell_ hx2 k6
  have l7 := Ext.cell_ hx2 k7
  have l8 := Ext.cell_ hx2 k8
  clear hs1 hx1 hx2 hb1
  rcases hm with rfl | rfl
  · go_wp2
    go_loop [5, 6] (fun s i => (i = .int .i64 1 ∧ s = .string ⟨#[]⟩) ∨ (i = .int .i64 0 ∧ s = .string ⟨#[35]⟩)) (fun _ i => (intOf i).toNat)
    case atStart => exact .inl ⟨rfl, rfl⟩
    case round =>
      rcases hrel with ⟨rfl, rfl⟩ | ⟨rfl, rfl⟩
      · go_wp2
        go_round
        case rel => exact .inr ⟨rfl, rfl⟩
        case measure => decide
      · go_wp2
        go_ret
        exact ⟨rfl, HX.out.trans HX2.out⟩
  · go_wp2
    go_loop [5, 6] (fun s i => (i = .int .i64 1 ∧ s = .string ⟨#[]⟩) ∨ (i = .int .i64 0 ∧ s = .string ⟨#[48]⟩)) (fun _ i => (intOf i).toNat)
    case atStart => exact .inl ⟨rfl, rfl⟩
    case round =>
      rcases hrel with ⟨rfl, rfl⟩ | ⟨rfl, rfl⟩
      · go_wp2
        go_round
        case rel => exact .inr ⟨rfl, rfl⟩
        case measure => decide
      · go_wp2
        go_ret
        exact ⟨rfl, HX.out.trans HX2.out⟩
end Go.Proofs.YtdkjkbbibdppoaaGreatDoor.Pat
