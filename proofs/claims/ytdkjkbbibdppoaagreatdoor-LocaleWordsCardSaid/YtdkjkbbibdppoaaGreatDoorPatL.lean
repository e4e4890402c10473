/- The laws' own example (lives), and Parse at texts that are known. -/
import Derived.Test.YtdkjkbbibdppoaaGreatDoorPatH
namespace Go.Proofs.YtdkjkbbibdppoaaGreatDoor.Pat
open Go.RowKit Utf All Small Strs Build EncC
set_option linter.unusedVariables false
set_option linter.unusedSimpArgs false

theorem pos_of {w : World} (HM : ∃ m, w.cell? ⟨2, 0, none⟩ = some (.int .i64 m)) : 2 < w.heap.size := by
  obtain ⟨m, hm⟩ := HM
  exact block_lt hm
theorem parse_ok {s : ByteArray} {p : Pt} (hp : parseF s.data.toList = .ok p) (w : World) (hs : s.size ≤ 100000000) :
    Calls Tryz.prog 11 #[.string s] w fun e w' => ∃ A c B d C a D b, e = .returned (.tuple #[.agg (patC (.slice A p.pre.length c) (.slice B p.suf.length d) (.slice C p.npre.length a) (.slice D p.nsuf.length b) p.num).toArray, .int .i64 0]) ∧
      Row w' A (pcsV p.pre) ∧ Row w' B (pcsV p.suf) ∧ Row w' C (pcsV p.npre) ∧ Row w' D (pcsV p.nsuf) ∧ Okc A c ∧ Okc B d ∧ Okc C a ∧ Okc D b ∧ Ext w w' :=
  (parse_ s w hs).mono fun e w' h => by rw [hp] at h; exact h
theorem parse_no {s : ByteArray} {x : Int} (hp : parseF s.data.toList = .error x) (w : World) (hs : s.size ≤ 100000000) :
    Calls Tryz.prog 11 #[.string s] w fun e w' => e = .returned (errV x) ∧ Ext w w' :=
  (parse_ s w hs).mono fun e w' h => by rw [hp] at h; exact h
def lives1 : Pt := ⟨[], [(0, [32, 120])], [(3, [])], [(0, [32, 120])], ⟨3, 3, 1, 2, 2⟩⟩
def lives2 : Pt := ⟨[(0, [40])], [(0, [41])], [(3, []), (0, [40])], [(0, [41])], ⟨0, 0, 1, 0, 0⟩⟩
theorem livesP1 : parseF [35, 44, 35, 35, 48, 46, 48, 48, 32, 120] = .ok lives1 := by kernel_rfl
theorem livesP2 : parseF [40, 48, 41] = .ok lives2 := by kernel_rfl
theorem livesT : (printF lives2.pre lives2.suf 1) = [40, 48, 41] := by kernel_rfl
set_option maxHeartbeats 4000000 in
set_option maxRecDepth 100000 in
theorem lives_ (w : World) (h0 : 2 < w.heap.size) (HM : ∃ m, w.cell? ⟨2, 0, none⟩ = some (.int .i64 m)) :
    Calls Tryz.prog 16 #[] w fun e w' => e = .returned (.bool true) ∧ Ext w w' := by
  go_enter Tryz.func16, Tryz.ntmps16
  go_wp2_with fail
  refine (parse_ok (s := ⟨#[35, 44, 35, 35, 48, 46, 48, 48, 32, 120]⟩) livesP1 _ (by decide)).mono ?_
  rintro e w1 ⟨A, c, B, d, C, a, D, b, rfl, hA, hB, hC, hD, oA, oB, oC, oD, hx1⟩
  go_wp2_with (refine wpList_store_fresh rfl 28 (.tmp 1) (.tmp 7) rfl (patC (.slice A lives1.pre.length c) (.slice B lives1.suf.length d) (.slice C lives1.npre.length a) (.slice D lives1.nsuf.length b) lives1.num).toArray 28 _ rfl rfl infoPat rfl pat_one ?_)
  have hn1 := Box.new w1 28 (patC (.slice A lives1.pre.length c) (.slice B lives1.suf.length d) (.slice C lives1.npre.length a) (.slice D lives1.nsuf.length b) lives1.num)
  have hx2 : Ext w (w1.alloc (.cells (patC (.slice A lives1.pre.length c) (.slice B lives1.suf.length d) (.slice C lives1.npre.length a) (.slice D lives1.nsuf.length b) lives1.num).toArray 28)) := Ext.alloc_ hx1 _
  generalize w1.alloc (.cells (patC (.slice A lives1.pre.length c) (.slice B lives1.suf.length d) (.slice C lives1.npre.length a) (.slice D lives1.nsuf.length b) lives1.num).toArray 28) = w2 at *
  refine (parse_ok (s := ⟨#[40, 48, 41]⟩) livesP2 w2 (by decide)).mono ?_
  rintro e w3 ⟨A', c', B', d', C', a', D', b', rfl, hA', hB', hC', hD', oA', oB', oC', oD', hx3⟩
  have hn3 := Box.new w3 28 (patC (.slice A' lives2.pre.length c') (.slice B' lives2.suf.length d') (.slice C' lives2.npre.length a') (.slice D' lives2.nsuf.length b') lives2.num)
  have hx4 : Ext w3 (w3.alloc (.cells (patC (.slice A' lives2.pre.length c') (.slice B' lives2.suf.length d') (.slice C' lives2.npre.length a') (.slice D' lives2.nsuf.length b') lives2.num).toArray 28)) := Ext.alloc_ (Ext.refl _) _
  have hw4 : ∃ w4, w4 = w3.alloc (.cells (patC (.slice A' lives2.pre.length c') (.slice B' lives2.suf.length d') (.slice C' lives2.npre.length a') (.slice D' lives2.nsuf.length b') lives2.num).toArray 28) := ⟨_, rfl⟩
  obtain ⟨w4, hw4⟩ := hw4
  rw [← hw4] at hn3 hx4
  have hm1 : Box w4 w1.heap.size 28 _ := (hn1.ext hx3).ext hx4
  have i4 := hm1.cell (j := 4) (v := .int .i64 3) rfl
  have i6 := hm1.cell (j := 6) (v := .int .i64 1) rfl
  have i7 := hm1.cell (j := 7) (v := .int .i64 2) rfl
  have k0 := hn3.cell (j := 0) (v := .slice A' 1 c') rfl
  have k1 := hn3.cell (j := 1) (v := .slice B' 1 d') rfl
  have k2 := hn3.cell (j := 2) (v := .slice C' 2 a') rfl
  have k3 := hn3.cell (j := 3) (v := .slice D' 1 b') rfl
  have k4 := hn3.cell (j := 4) (v := .int .i64 0) rfl
  have k5 := hn3.cell (j := 5) (v := .int .i64 0) rfl
  have k6 := hn3.cell (j := 6) (v := .int .i64 1) rfl
  have k7 := hn3.cell (j := 7) (v := .int .i64 0) rfl
  have k8 := hn3.cell (j := 8) (v := .int .i64 0) rfl
  have HX : Hid (Ext w w4) := Lib.hid ((hx2.trans hx3).trans hx4)
  have HM4 : ∃ m, w4.cell? ⟨2, 0, none⟩ = some (.int .i64 m) := by
    obtain ⟨m, hm⟩ := HM
    exact ⟨m, Ext.cell_ HX.out hm⟩
  have h04 : 2 < w4.heap.size := by have := HX.out.size; omega
  have HR : Hid (Row w4 A' (pcsV lives2.pre) ∧ Row w4 B' (pcsV lives2.suf) ∧ Row w4 C' (pcsV lives2.npre) ∧ Row w4 D' (pcsV lives2.nsuf)) := Lib.hid ⟨hA'.below hx4 (Nat.le_refl _), hB'.below hx4 (Nat.le_refl _), hC'.below hx4 (Nat.le_refl _), hD'.below hx4 (Nat.le_refl _)⟩
  clear hx2 hx3 hx4 hm1 hn1 hn3 hA hB hC hD hA' hB' hC' hD'
  have HM5 := Lib.hid HM4
  have H05 := Lib.hid h04
  clear HM4 h04
  subst hw4
  go_wp2_with (refine wpList_store_fresh rfl 28 (.tmp 3) (.tmp 11) rfl (patC (.slice A' lives2.pre.length c') (.slice B' lives2.suf.length d') (.slice C' lives2.npre.length a') (.slice D' lives2.nsuf.length b') lives2.num).toArray 28 _ rfl rfl infoPat rfl pat_one ?_)
  refine (print_ A' B' C' D' c' d' a' b' lives2.pre lives2.suf 1 _ HR.out.1 HR.out.2.1 HR.out.2.2.1 HR.out.2.2.2 oA' oB' H05.out HM5.out (.inr rfl) (by decide) (by decide) (by decide) (by decide)).mono ?_
  rintro e w5 ⟨rfl, hx5⟩
  rw [livesT]
  go_wp2
  go_ret
  exact ⟨rfl, HX.out.trans hx5⟩
end Go.Proofs.YtdkjkbbibdppoaaGreatDoor.Pat
