/- Patterns of numbers: the walk of Print, at patterns without groups and decimals, whose negative half is the plain one. -/
import Derived.Test.YtdkjkbbibdppoaaGreatDoorPatG
import Derived.Deep.DeepCutAuto
namespace Go.Proofs.YtdkjkbbibdppoaaGreatDoor.Pat
open Go.RowKit Utf All Small Strs Build EncC
set_option linter.unusedVariables false
set_option linter.unusedSimpArgs false

theorem litF_len (l : List Pc) (h : ∀ x ∈ l, x.1 = 0 ∧ x.2.length ≤ 100000) : (litF l).length ≤ 800002 * l.length := by
  induction l with
  | nil => simp [litF]
  | cons x l ih =>
    have h1 := escL_len x.2
    have h2 := (h x (by simp)).2
    have h3 := ih (fun y hy => h y (by simp [hy]))
    have e : litF (x :: l) = escL x.2 ++ litF l := rfl
    rw [e, List.length_append, List.length_cons]; omega
theorem sigB_len (m : Int) : (sigB m).length = 1 := by unfold sigB; split <;> rfl
def printF (p s : List Pc) (m : Int) : List UInt8 := litF p ++ sigB m ++ litF s
theorem equal_same (A B : Option Addr) (c d n : Nat) (l : List Pc) (w : World) (hn : l.length = n) (hA : Row w A (pcsV l)) (hB : Row w B (pcsV l)) (hl : l.length ≤ 10000000000) :
    Calls Tryz.prog 58 #[.slice A n c, .slice B n d] w fun e w' => e = .returned (.bool true) ∧ Ext w w' :=
  (equal_n A B c d n n l l w hn hn hA hB hl hl).mono fun e w' ⟨h1, h2⟩ => ⟨by rw [h1, decide_eq_true rfl], h2⟩
set_option maxHeartbeats 2000000 in
set_option maxRecDepth 100000 in
theorem print_ (A B C D : Option Addr) (c d a b : Nat) (p s : List Pc) (m : Int) (w : World) (hA : Row w A (pcsV p)) (hB : Row w B (pcsV s)) (hC : Row w C (pcsV ((3, []) :: p))) (hD : Row w D (pcsV s)) (hcA : Okc A c) (hcB : Okc B d)
    (h0 : 2 < w.heap.size) (HM : ∃ m, w.cell? ⟨2, 0, none⟩ = some (.int .i64 m)) (hm : m = 0 ∨ m = 1) (hp : p.length ≤ 900) (hs : s.length ≤ 900) (hkp : ∀ x ∈ p, x.1 = 0 ∧ x.2.length ≤ 100000) (hks : ∀ x ∈ s, x.1 = 0 ∧ x.2.length ≤ 100000) :
    Calls Tryz.prog 60 #[.agg (patC (.slice A p.length c) (.slice B s.length d) (.slice C (p.length + 1) a) (.slice D s.length b) ⟨0, 0, m, 0, 0⟩).toArray] w fun e w' => e = .returned (.string ⟨(printF p s m).toArray⟩) ∧ Ext w w' := by
  have hb1 := Box.new w 28 (patC (.slice A p.length c) (.slice B s.length d) (.slice C (p.length + 1) a) (.slice D s.length b) ⟨0, 0, m, 0, 0⟩)
  have hx1 : Ext w (w.alloc (.cells (patC (.slice A p.length c) (.slice B s.length d) (.slice C (p.length + 1) a) (.slice D s.length b) ⟨0, 0, m, 0, 0⟩).toArray 28)) := Ext.alloc_ (Ext.refl w) _
  go_enter Tryz.func60, Tryz.ntmps60
  go_upto_region 1 with fail
  change Code.wp _ _ _ _ (w.alloc (.cells (patC (.slice A p.length c) (.slice B s.length d) (.slice C (p.length + 1) a) (.slice D s.length b) ⟨0, 0, m, 0, 0⟩).toArray 28))
  generalize w.alloc (.cells (patC (.slice A p.length c) (.slice B s.length d) (.slice C (p.length + 1) a) (.slice D s.length b) ⟨0, 0, m, 0, 0⟩).toArray 28) = w1 at *
  have k0 := hb1.cell (j := 0) (v := .slice A p.length c) rfl
  have k1 := hb1.cell (j := 1) (v := .slice B s.length d) rfl
  have k2 := hb1.cell (j := 2) (v := .slice C (p.length + 1) a) rfl
  have k3 := hb1.cell (j := 3) (v := .slice D s.length b) rfl
  have k4 := hb1.cell (j := 4) (v := .int .i64 0) rfl
  have k5 := hb1.cell (j := 5) (v := .int .i64 0) rfl
  have k6 := hb1.cell (j := 6) (v := .int .i64 m) rfl
  have k7 := hb1.cell (j := 7) (v := .int .i64 0) rfl
  have k8 := hb1.cell (j := 8) (v := .int .i64 0) rfl
  have HM1 : ∀ W, Ext w1 W → ∃ m, W.cell? ⟨2, 0, none⟩ = some (.int .i64 m) := fun W hW => by
    obtain ⟨m, hm⟩ := HM
    exact ⟨m, Ext.cell_ (hx1.trans hW) hm⟩
  have hsz : ∀ W, Ext w1 W → 2 < W.heap.size := fun W hW => by have := hx1.size; have := hW.size; omega
  have HP : Hid (∀ W, Ext w1 W → Calls Tryz.prog 102 #[.slice A p.length c] W fun e w' => e = .returned (.string ⟨(litF p).toArray⟩) ∧ Ext W w') := Lib.hid (fun W hW => pieces_ A c p W (hA.below (hx1.trans hW) (Nat.le_refl _)) (hsz W hW) (HM1 W hW) (by omega) hkp)
  have HS : Hid (∀ W, Ext w1 W → Calls Tryz.prog 102 #[.slice B s.length d] W fun e w' => e = .returned (.string ⟨(litF s).toArray⟩) ∧ Ext W w') := Lib.hid (fun W hW => pieces_ B d s W (hB.below (hx1.trans hW) (Nat.le_refl _)) (hsz W hW) (HM1 W hW) (by omega) hks)
  have HG : Hid (∀ W, Ext w1 W → Calls Tryz.prog 103 #[.agg #[.slice A p.length c, .slice B s.length d, .slice C (p.length + 1) a, .slice D s.length b, .int .i64 0, .int .i64 0, .int .i64 m, .int .i64 0, .int .i64 0]] W fun e w' => e = .returned (.string ⟨(sigB m).toArray⟩) ∧ Ext W w') := Lib.hid (fun W hW => signed_ (.slice A p.length c) (.slice B s.length d) (.slice C (p.length + 1) a) (.slice D s.length b) m hm W)
  have HL : Hid (∀ W, Ext w1 W → Calls Tryz.prog 53 #[.agg #[.slice A p.length c, .slice B s.length d, .slice C (p.length + 1) a, .slice D s.length b, .int .i64 0, .int .i64 0, .int .i64 m, .int .i64 0, .int .i64 0]] W fun e w' =>
      ∃ A' c' B' d', e = .returned (.tuple #[.slice A' (p.length + 1) c', .slice B' s.length d']) ∧ Row w' A' (pcsV ((3, []) :: p)) ∧ Row w' B' (pcsV s) ∧ Ext W w') := Lib.hid (fun W hW => (plain_ A B c d p s (.slice C (p.length + 1) a) (.slice D s.length b) ⟨0, 0, m, 0, 0⟩ W (hA.below (hx1.trans hW) (Nat.le_refl _)) (hB.below (hx1.trans hW) (Nat.le_refl _)) hcA hcB (by omega) (by omega)).mono fun e w' ⟨A', c', B', d', h1, h2, h3, _, _, _, _, _, _, h4⟩ => ⟨A', c', B', d', h1, h2, h3, h4⟩)
  have HC : Hid (∀ W, Ext w1 W → Row W C (pcsV ((3, []) :: p)) ∧ Row W D (pcsV s)) := Lib.hid (fun W hW => ⟨hC.below (hx1.trans hW) (Nat.le_refl _), hD.below (hx1.trans hW) (Nat.le_refl _)⟩)
  have HX := Lib.hid hx1
  have hE1 : Ext w1 w1 := Ext.refl w1
  have hlp : (litF p).length ≤ 1000000000 := by have := litF_len p hkp; omega
  have hls : (litF s).length ≤ 1000000000 := by have := litF_len s hks; omega
  have hsg : (sigB m).length ≤ 1 := by rw [sigB_len]; exact Nat.le_refl _
  have hq1 : (9223372036854775807 < (litF p).length + (sigB m).length) = False := by rw [eq_iff_iff, iff_false]; omega
  have hq2 : (9223372036854775807 < (litF p).length + (sigB m).length + (litF s).length) = False := by rw [eq_iff_iff, iff_false]; omega
  clear hx1 HM1 hsz hb1
  go_cut [3] (fun u wx => u = .string ⟨(printF p s m).toArray⟩ ∧ Ext w1 wx)
  case first =>
    go_region_held3 (fun W => Ext w1 W ∧ W.cell? ⟨w.heap.size, 0, none⟩ = some (.slice A p.length c) ∧ W.cell? ⟨w.heap.size, 1, none⟩ = some (.slice B s.length d) ∧ W.cell? ⟨w.heap.size, 2, none⟩ = some (.slice C (p.length + 1) a) ∧ W.cell? ⟨w.heap.size, 3, none⟩ = some (.slice D s.length b) ∧
        W.cell? ⟨w.heap.size, 4, none⟩ = some (.int .i64 0) ∧ W.cell? ⟨w.heap.size, 5, none⟩ = some (.int .i64 0) ∧ W.cell? ⟨w.heap.size, 6, none⟩ = some (.int .i64 m) ∧ W.cell? ⟨w.heap.size, 7, none⟩ = some (.int .i64 0) ∧ W.cell? ⟨w.heap.size, 8, none⟩ = some (.int .i64 0))
      (first
        | exact ⟨Ext.drew_ (Ext.refl _), k0, k1, k2, k3, k4, k5, k6, k7, k8⟩
        | exact ⟨Ext.refl _, k0, k1, k2, k3, k4, k5, k6, k7, k8⟩
        | (refine (fun h => ⟨h, Ext.cell_ h k0, Ext.cell_ h k1, Ext.cell_ h k2, Ext.cell_ h k3, Ext.cell_ h k4, Ext.cell_ h k5, Ext.cell_ h k6, Ext.cell_ h k7, Ext.cell_ h k8⟩) ?_; first | assumption | exact Ext.drew_ (by assumption)))
      (first
        | (go_at_call 103; with_reducible refine (HG.out _ ?_).mono ?_; (first | assumption | exact Ext.drew_ (Ext.refl _)); rintro e w3 ⟨rfl, hx3⟩; (first | (have hE3 := (Ext.drew_ (Ext.refl w1)).trans hx3) | (rename Ext w1 _ => hEo; have hE3 := hEo.trans hx3)))
        | (go_at_call 102; with_reducible refine (HP.out _ ?_).mono ?_; (first | assumption | exact Ext.drew_ (Ext.refl _)); rintro e w3 ⟨rfl, hx3⟩; (first | (have hE3 := (Ext.drew_ (Ext.refl w1)).trans hx3) | (rename Ext w1 _ => hEo; have hE3 := hEo.trans hx3)))
        | (go_at_call 102; with_reducible refine (HS.out _ ?_).mono ?_; (first | assumption | exact Ext.drew_ (Ext.refl _)); rintro e w3 ⟨rfl, hx3⟩; (first | (have hE3 := (Ext.drew_ (Ext.refl w1)).trans hx3) | (rename Ext w1 _ => hEo; have hE3 := hEo.trans hx3))))
    all_goals go_wp2_with fail
    all_goals go_meet
    all_goals exact ⟨by rw [app_mk, app_mk]; rfl, by assumption⟩
  case rest =>
    obtain ⟨rfl, hE⟩ := hcut
    rename_i wx
    have j0 := Ext.cell_ hE k0
    have j1 := Ext.cell_ hE k1
    have j2 := Ext.cell_ hE k2
    have j3 := Ext.cell_ hE k3
    have j4 := Ext.cell_ hE k4
    have j5 := Ext.cell_ hE k5
    have j6 := Ext.cell_ hE k6
    have j7 := Ext.cell_ hE k7
    have j8 := Ext.cell_ hE k8
    go_wp2_with fail
    refine (HL.out _ hE).mono ?_; rintro e w3 ⟨A', c', B', d', rfl, hA', hB', hx3⟩
    have hE3 := hE.trans hx3
    have i2 := Ext.cell_ hE3 k2
    have i3 := Ext.cell_ hE3 k3
    go_wp2_with fail
    refine (equal_same _ _ _ _ _ ((3, []) :: p) w3 (by simp) hA' ((HC.out _ hE3).1) (by simp; omega)).mono ?_; rintro e w4 ⟨rfl, hx4⟩
    have hE4 := hE3.trans hx4
    have i3' := Ext.cell_ hE4 k3
    go_wp2_with fail
    refine (equal_same _ _ _ _ _ s w4 rfl (hB'.below hx4 (Nat.le_refl _)) ((HC.out _ hE4).2) (by omega)).mono ?_; rintro e w5 ⟨rfl, hx5⟩
    go_wp2
    go_ret
    exact ⟨rfl, HX.out.trans (hE4.trans hx5)⟩
end Go.Proofs.YtdkjkbbibdppoaaGreatDoor.Pat
