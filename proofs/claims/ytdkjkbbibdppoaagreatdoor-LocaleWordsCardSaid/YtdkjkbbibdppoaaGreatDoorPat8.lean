/- Patterns of numbers: what Parse defers. -/
import Derived.Test.YtdkjkbbibdppoaaGreatDoorPat7
import Derived.Defers
import Derived.Recover
namespace Go.Proofs.YtdkjkbbibdppoaaGreatDoor.Pat
open Go.RowKit
set_option linter.unusedVariables false
set_option linter.unusedSimpArgs false

theorem catch_idle (g k : Nat) (w : World) :
    CallsD Tryz.prog 46 #[.pointer (some ⟨g, 0, none⟩), .pointer (some ⟨k, 0, none⟩)] .returning w fun e u' w' => e = .returned (.tuple #[]) ∧ u' = .returning ∧ w' = w := by
  refine callsD_of_wpS Tryz.func46 rfl fun c₀ cs hu => ?_
  apply wpS_seq
  apply wpS_region
  simp [wpOpsS, go_sem, recoverD, hu, Tryz.ntmps46, Exit.thenS]
  refine wpS_of_wp ?_
  change Code.wp _ _ _ { tmps := #[.pointer (some ⟨g, 0, none⟩), .pointer (some ⟨k, 0, none⟩), .nilIface, .nilIface, undef, undef, undef, undef, undef], defers := [] } _
  go_wp2
  cases c₀
  simp_all [bodyPostS, results, Tryz.results46]
theorem catch_refused (g k : Nat) (cs : List Value) (hl : cs.length = 9) (u : Value) (v w : World) (hb : Box w g 28 cs) (hk : Box w k 29 [u]) (hne : g ≠ k) (hv : Ext v w) (hg : v.heap.size ≤ g) (hkv : v.heap.size ≤ k) :
    CallsD Tryz.prog 46 #[.pointer (some ⟨g, 0, none⟩), .pointer (some ⟨k, 0, none⟩)] (.panicking ({ v := .iface 92 (.int .i64 2), recovered := false } :: [])) w fun e u' w' =>
      e = .returned (.tuple #[]) ∧ u' = .panicking ({ v := .iface 92 (.int .i64 2), recovered := true } :: []) ∧ Box w' g 28 (patC nilS nilS nilS nilS zeroN) ∧ Box w' k 29 [.int .i64 2] ∧ Ext v w' := by
  obtain ⟨c0, c1, c2, c3, c4, c5, c6, c7, c8, rfl⟩ : ∃ c0 c1 c2 c3 c4 c5 c6 c7 c8, cs = [c0, c1, c2, c3, c4, c5, c6, c7, c8] := by
    match cs, hl with
    | [c0, c1, c2, c3, c4, c5, c6, c7, c8], _ => exact ⟨c0, c1, c2, c3, c4, c5, c6, c7, c8, rfl⟩
  refine callsD_of_wpS Tryz.func46 rfl fun c₀ cs' hu => ?_
  apply wpS_seq
  apply wpS_region
  simp [wpOpsS, go_sem, recoverD, hu, Tryz.ntmps46, Exit.thenS]
  refine wpS_of_wp ?_
  change Code.wp _ _ _ { tmps := #[.pointer (some ⟨g, 0, none⟩), .pointer (some ⟨k, 0, none⟩), .iface 92 (.int .i64 2), .iface 92 (.int .i64 2), undef, undef, undef, undef, undef], defers := [] } _
  have hkc := hk.cell (j := 0) (v := u) rfl
  have hkf := hk.frozen 0
  obtain ⟨q0, q1, q2, q3, q4, q5, q6, q7, q8, r0, r1, r2, r3, r4, r5, r6, r7, r8⟩ := box9 hb
  have hta : ∀ W, (Instr.typeAssert (.iface 92 (.int .i64 2)) 20 92 false).run Tryz.prog W = .ok (.int .i64 2) W := fun W => by kernel_rfl
  go_upto_region 2 with fail
  go_region
  have hG := ((((((((((hb.setCell 0 (.slice none 0 0)).setCell 1 (.slice none 0 0)).setCell 2 (.slice none 0 0)).setCell 3 (.slice none 0 0)).setCell 4 (.int .i64 0)).setCell 5 (.int .i64 0)).setCell 6 (.int .i64 0)).setCell 7 (.int .i64 0)).setCell 8 (.int .i64 0)).setCell1 k (.int .i64 2) (Ne.symm hne) 0).drew
  have hK := ((((((((((hk.setCell1 g (.slice none 0 0) hne 0).setCell1 g (.slice none 0 0) hne 1).setCell1 g (.slice none 0 0) hne 2).setCell1 g (.slice none 0 0) hne 3).setCell1 g (.int .i64 0) hne 4).setCell1 g (.int .i64 0) hne 5).setCell1 g (.int .i64 0) hne 6).setCell1 g (.int .i64 0) hne 7).setCell1 g (.int .i64 0) hne 8).setCell 0 (.int .i64 2)).drew
  have hE := Ext.drew_ (Ext.setCell_ (Ext.setCell_ (Ext.setCell_ (Ext.setCell_ (Ext.setCell_ (Ext.setCell_ (Ext.setCell_ (Ext.setCell_ (Ext.setCell_ (Ext.setCell_ hv hg 0 (.slice none 0 0)) hg 1 (.slice none 0 0)) hg 2 (.slice none 0 0)) hg 3 (.slice none 0 0)) hg 4 (.int .i64 0)) hg 5 (.int .i64 0)) hg 6 (.int .i64 0)) hg 7 (.int .i64 0)) hg 8 (.int .i64 0)) hkv 0 (.int .i64 2))
  generalize ((((((((((w.setCell ⟨g, 0, none⟩ (.slice none 0 0)).setCell ⟨g, 1, none⟩ (.slice none 0 0)).setCell ⟨g, 2, none⟩ (.slice none 0 0)).setCell ⟨g, 3, none⟩ (.slice none 0 0)).setCell ⟨g, 4, none⟩ (.int .i64 0)).setCell ⟨g, 5, none⟩ (.int .i64 0)).setCell ⟨g, 6, none⟩ (.int .i64 0)).setCell ⟨g, 7, none⟩ (.int .i64 0)).setCell ⟨g, 8, none⟩ (.int .i64 0)).setCell ⟨k, 0, none⟩ (.int .i64 2)).drew = W at *
  clear hb hk hta q0 q1 q2 q3 q4 q5 q6 q7 q8 r0 r1 r2 r3 r4 r5 r6 r7 r8 hkc hkf
  go_wp2
  cases c₀
  have HG : Hid (Box W g 28 (patC nilS nilS nilS nilS zeroN)) := Lib.hid hG
  have HK : Hid (Box W k 29 [.int .i64 2]) := Lib.hid hK
  have HE := Lib.hid hE
  clear hG hK hE
  simp_all [bodyPostS, results, Tryz.results46]
  exact ⟨HG.out, HK.out, HE.out⟩
end Go.Proofs.YtdkjkbbibdppoaaGreatDoor.Pat
