/- Walks: what stands ahead of a number, and behind it, by the document. (Printed by wip/gen/lref3b.py.) -/
import Derived.Test.YtdkjkbbibdppoaaGreatDoorLRef3
namespace Go.Proofs.YtdkjkbbibdppoaaGreatDoor.Loc
open Go.RowKit Utf All Small Strs Build EncC Pat Cls Dec Go.Proofs.YtdkjkbbibdppoaaGreatDoor.Sys
set_option linter.unusedVariables false
set_option linter.unusedSimpArgs false

set_option maxHeartbeats 8000000 in
set_option maxRecDepth 100000 in
theorem ref_around_true (A B C D : Option Addr) (c d a b : Nat) (r : Rec) (p : Pt) (w : World) (h : Both r p) (hpt : PtR w A B C D p) (hcap : CapR p c d a b) :
    Calls Tryz.prog 21 #[.agg (refLV A B C D c d a b r p).toArray, .bool true] w fun e w' => ∃ E c1 F c2, e = .returned (.tuple #[.slice E (ahead (locOf r p) true).length c1, .slice F (behind (locOf r p) true).length c2]) ∧ Row w' E (prtV (ahead (locOf r p) true)) ∧ Row w' F (prtV (behind (locOf r p) true)) ∧ Okc E c1 ∧ Okc F c2 ∧ Ext w w' := by
  have b1 := Box.new w 61 (refLV A B C D c d a b r p)
  have hx1 : Ext w (w.alloc (.cells (refLV A B C D c d a b r p).toArray 61)) := Ext.alloc_ (Ext.refl w) _
  have hr1 : (w.alloc (.cells (refLV A B C D c d a b r p).toArray 61)).rangeAt w.heap.size 0 [.string ⟨r.name.toArray⟩, .string ⟨r.pattern.toArray⟩, .string ⟨r.system.toArray⟩, .string ⟨r.decimal.toArray⟩, .string ⟨r.group.toArray⟩, .string ⟨r.minus.toArray⟩, .string ⟨r.percent.toArray⟩, .string ⟨r.currency.toArray⟩, .slice A p.pre.length c, .slice B p.suf.length d, .slice C p.npre.length a, .slice D p.nsuf.length b, .int .i64 p.num.prim, .int .i64 p.num.sec, .int .i64 p.num.minInt, .int .i64 p.num.minFrac, .int .i64 p.num.maxFrac] := b1.range
  have c10 := b1.cell (j := 10) (v := .slice C p.npre.length a) rfl
  have c11 := b1.cell (j := 11) (v := .slice D p.nsuf.length b) rfl
  have H1 : Hid (∀ W, Ext w W → Calls Tryz.prog 69 #[.agg ([.string ⟨r.name.toArray⟩, .string ⟨r.pattern.toArray⟩, .string ⟨r.system.toArray⟩, .string ⟨r.decimal.toArray⟩, .string ⟨r.group.toArray⟩, .string ⟨r.minus.toArray⟩, .string ⟨r.percent.toArray⟩, .string ⟨r.currency.toArray⟩, .slice A p.pre.length c, .slice B p.suf.length d, .slice C p.npre.length a, .slice D p.nsuf.length b, .int .i64 p.num.prim, .int .i64 p.num.sec, .int .i64 p.num.minInt, .int .i64 p.num.minFrac, .int .i64 p.num.maxFrac] : List Value).toArray, .slice C p.npre.length a] W fun e w' => ∃ E c', e = .returned (.slice E (ahead (locOf r p) true).length c') ∧ Row w' E (prtV (ahead (locOf r p) true)) ∧ Okc E c' ∧ Ext W w') := Lib.hid fun W hW =>
    ref_parts A B C D C c d a b _ a p.npre r p W h.may.b (hpt.ext hW).2.2.1 rfl hcap.2.2.1 (h.may.b.len _ (by simp [affs])) (h.pcs _ (by simp [affsP]))
  have H2 : Hid (∀ W, Ext w W → Calls Tryz.prog 69 #[.agg ([.string ⟨r.name.toArray⟩, .string ⟨r.pattern.toArray⟩, .string ⟨r.system.toArray⟩, .string ⟨r.decimal.toArray⟩, .string ⟨r.group.toArray⟩, .string ⟨r.minus.toArray⟩, .string ⟨r.percent.toArray⟩, .string ⟨r.currency.toArray⟩, .slice A p.pre.length c, .slice B p.suf.length d, .slice C p.npre.length a, .slice D p.nsuf.length b, .int .i64 p.num.prim, .int .i64 p.num.sec, .int .i64 p.num.minInt, .int .i64 p.num.minFrac, .int .i64 p.num.maxFrac] : List Value).toArray, .slice D p.nsuf.length b] W fun e w' => ∃ E c', e = .returned (.slice E (behind (locOf r p) true).length c') ∧ Row w' E (prtV (behind (locOf r p) true)) ∧ Okc E c' ∧ Ext W w') := Lib.hid fun W hW =>
    ref_parts A B C D D c d a b _ b p.nsuf r p W h.may.b (hpt.ext hW).2.2.2 rfl hcap.2.2.2 (h.may.b.len _ (by simp [affs])) (h.pcs _ (by simp [affsP]))
  have HX1 := Lib.hid hx1
  clear b1 hx1 h hpt hcap
  generalize ahead (locOf r p) true = L1 at *
  generalize behind (locOf r p) true = L2 at *
  go_enter Tryz.func21, Tryz.ntmps21
  go_upto_region 1 with fail
  change Code.wp _ _ _ _ (w.alloc (.cells (refLV A B C D c d a b r p).toArray 61))
  generalize w.alloc (.cells (refLV A B C D c d a b r p).toArray 61) = w1 at *
  generalize hlb : w.heap.size = lb at *
  clear hlb
  go_upto_region 2 with fail
  refine wp_region_noPanic ?_
  refine wp_region_held_drew (S := fun W => Ext w1 W ∧ W.rangeAt lb 0 [.string ⟨r.name.toArray⟩, .string ⟨r.pattern.toArray⟩, .string ⟨r.system.toArray⟩, .string ⟨r.decimal.toArray⟩, .string ⟨r.group.toArray⟩, .string ⟨r.minus.toArray⟩, .string ⟨r.percent.toArray⟩, .string ⟨r.currency.toArray⟩, .slice A p.pre.length c, .slice B p.suf.length d, .slice C p.npre.length a, .slice D p.nsuf.length b, .int .i64 p.num.prim, .int .i64 p.num.sec, .int .i64 p.num.minInt, .int .i64 p.num.minFrac, .int .i64 p.num.maxFrac] ∧ W.cell? ⟨lb, 10, none⟩ = some (.slice C p.npre.length a) ∧ W.cell? ⟨lb, 11, none⟩ = some (.slice D p.nsuf.length b)) (by kernel_rfl) ?_ (fun hHeld => ?_)
  · exact ⟨Ext.drew_ (Ext.refl _), hr1, c10, c11⟩
  refine takeRow_ (cs := [.string ⟨r.name.toArray⟩, .string ⟨r.pattern.toArray⟩, .string ⟨r.system.toArray⟩, .string ⟨r.decimal.toArray⟩, .string ⟨r.group.toArray⟩, .string ⟨r.minus.toArray⟩, .string ⟨r.percent.toArray⟩, .string ⟨r.currency.toArray⟩, .slice A p.pre.length c, .slice B p.suf.length d, .slice C p.npre.length a, .slice D p.nsuf.length b, .int .i64 p.num.prim, .int .i64 p.num.sec, .int .i64 p.num.minInt, .int .i64 p.num.minFrac, .int .i64 p.num.maxFrac]) 0 rfl (by kernel_rfl) (by kernel_rfl) (by kernel_rfl) (fun _ _ _ h => h) hHeld (by rfl) 61 ((.tmp 2)) rfl lb (0) rfl _ (fun _ h => h.2.1) Tryz.underlying61 rfl infoRL ?_
  try simp only [Act.put, List.setIfInBounds_toArray, List.set_cons_zero, List.set_cons_succ]
  refine take_ 1 (v := ?_) rfl (by kernel_rfl) (by kernel_rfl) (by kernel_rfl) (fun _ _ _ h => h) hHeld (by rfl) ?_ ?_
  rotate_left 1
  · (intro w hSw; (try dsimp only at hSw); go_simp; all_goals with_reducible rfl)
  try simp only [Act.put, List.setIfInBounds_toArray, List.set_cons_zero, List.set_cons_succ]
  refine take_ 2 (v := ?_) rfl (by kernel_rfl) (by kernel_rfl) (by kernel_rfl) (fun _ _ _ h => h) hHeld (by rfl) ?_ ?_
  rotate_left 1
  · (intro w hSw; (try dsimp only at hSw); go_simp; all_goals with_reducible rfl)
  try simp only [Act.put, List.setIfInBounds_toArray, List.set_cons_zero, List.set_cons_succ]
  refine take_ 3 (v := ?_) rfl (by kernel_rfl) (by kernel_rfl) (by kernel_rfl) (fun _ _ _ h => h) hHeld (by rfl) ?_ ?_
  rotate_left 1
  · (intro w hSw; (try dsimp only at hSw); go_simp; all_goals with_reducible rfl)
  try simp only [Act.put, List.setIfInBounds_toArray, List.set_cons_zero, List.set_cons_succ]
  refine takeRow_ (cs := [.string ⟨r.name.toArray⟩, .string ⟨r.pattern.toArray⟩, .string ⟨r.system.toArray⟩, .string ⟨r.decimal.toArray⟩, .string ⟨r.group.toArray⟩, .string ⟨r.minus.toArray⟩, .string ⟨r.percent.toArray⟩, .string ⟨r.currency.toArray⟩, .slice A p.pre.length c, .slice B p.suf.length d, .slice C p.npre.length a, .slice D p.nsuf.length b, .int .i64 p.num.prim, .int .i64 p.num.sec, .int .i64 p.num.minInt, .int .i64 p.num.minFrac, .int .i64 p.num.maxFrac]) 5 rfl (by kernel_rfl) (by kernel_rfl) (by kernel_rfl) (fun _ _ _ h => h) hHeld (by rfl) 61 ((.tmp 2)) rfl lb (0) rfl _ (fun _ h => h.2.1) Tryz.underlying61 rfl infoRL ?_
  try simp only [Act.put, List.setIfInBounds_toArray, List.set_cons_zero, List.set_cons_succ]
  refine take_ 6 (v := ?_) rfl (by kernel_rfl) (by kernel_rfl) (by kernel_rfl) (fun _ _ _ h => h) hHeld (by rfl) ?_ ?_
  rotate_left 1
  · (intro w hSw; (try dsimp only at hSw); go_simp; all_goals with_reducible rfl)
  try simp only [Act.put, List.setIfInBounds_toArray, List.set_cons_zero, List.set_cons_succ]
  refine take_ 7 (v := ?_) rfl (by kernel_rfl) (by kernel_rfl) (by kernel_rfl) (fun _ _ _ h => h) hHeld (by rfl) ?_ ?_
  rotate_left 1
  · (intro w hSw; (try dsimp only at hSw); go_simp; all_goals with_reducible rfl)
  try simp only [Act.put, List.setIfInBounds_toArray, List.set_cons_zero, List.set_cons_succ]
  refine take_ 8 (v := ?_) rfl (by kernel_rfl) (by kernel_rfl) (by kernel_rfl) (fun _ _ _ h => h) hHeld (by rfl) ?_ ?_
  rotate_left 1
  · (intro w hSw; (try dsimp only at hSw); go_simp; all_goals with_reducible rfl)
  try simp only [Act.put, List.setIfInBounds_toArray, List.set_cons_zero, List.set_cons_succ]
  refine only_ 4 rfl (by kernel_rfl) (fun K1 hK1 => ?_)
  go_simp
  go_at_call 69
  refine (H1.out _ (HX1.out.trans hHeld.1)).mono ?_
  rintro e w4 ⟨E, c1, rfl, hr4, ho4, hx4⟩
  have HR4 := Lib.hid hr4
  refine hK1.out _ _ (⟨hHeld.1.trans hx4, Ext.range_ hx4 hHeld.2.1, Ext.cell_ hx4 hHeld.2.2.1, Ext.cell_ hx4 hHeld.2.2.2⟩) (fun hHeld => ?_)
  clear hK1
  try simp only [Act.put, List.setIfInBounds_toArray, List.set_cons_zero, List.set_cons_succ]
  refine only_ 9 rfl (by kernel_rfl) (fun K1 hK1 => ?_)
  go_simp
  go_at_call 69
  refine (H2.out _ (HX1.out.trans hHeld.1)).mono ?_
  rintro e w5 ⟨F, c2, rfl, hr5, ho5, hx5⟩
  have hr4' := HR4.out.below hx5 (Nat.le_refl _)
  refine hK1.out _ _ (⟨hHeld.1.trans hx5, Ext.range_ hx5 hHeld.2.1, Ext.cell_ hx5 hHeld.2.2.1, Ext.cell_ hx5 hHeld.2.2.2⟩) (fun hHeld => ?_)
  clear hK1
  try simp only [Act.put, List.setIfInBounds_toArray, List.set_cons_zero, List.set_cons_succ]
  refine take_ 10 (v := ?_) rfl (by kernel_rfl) (by kernel_rfl) (by kernel_rfl) (fun _ _ _ h => h) hHeld (by rfl) ?_ ?_
  rotate_left 1
  · (intro w hSw; (try dsimp only at hSw); go_simp; all_goals with_reducible rfl)
  try simp only [Act.put, List.setIfInBounds_toArray, List.set_cons_zero, List.set_cons_succ]
  refine take_ 11 (v := ?_) rfl (by kernel_rfl) (by kernel_rfl) (by kernel_rfl) (fun _ _ _ h => h) hHeld (by rfl) ?_ ?_
  rotate_left 1
  · (intro w hSw; (try dsimp only at hSw); go_simp; all_goals with_reducible rfl)
  try simp only [Act.put, List.setIfInBounds_toArray, List.set_cons_zero, List.set_cons_succ]
  refine wpAnyH_done (by kernel_rfl) ?_ _
  refine NoPanic.normal ?_
  have HH := Lib.hid hHeld.1
  clear hHeld
  go_wp2
  go_ret2
  exact ⟨E, c1, F, c2, rfl, hr4', hr5, ho4, ho5, HX1.out.trans HH.out⟩
set_option maxHeartbeats 8000000 in
set_option maxRecDepth 100000 in
theorem ref_around_false (A B C D : Option Addr) (c d a b : Nat) (r : Rec) (p : Pt) (w : World) (h : Both r p) (hpt : PtR w A B C D p) (hcap : CapR p c d a b) :
    Calls Tryz.prog 21 #[.agg (refLV A B C D c d a b r p).toArray, .bool false] w fun e w' => ∃ E c1 F c2, e = .returned (.tuple #[.slice E (ahead (locOf r p) false).length c1, .slice F (behind (locOf r p) false).length c2]) ∧ Row w' E (prtV (ahead (locOf r p) false)) ∧ Row w' F (prtV (behind (locOf r p) false)) ∧ Okc E c1 ∧ Okc F c2 ∧ Ext w w' := by
  have b1 := Box.new w 61 (refLV A B C D c d a b r p)
  have hx1 : Ext w (w.alloc (.cells (refLV A B C D c d a b r p).toArray 61)) := Ext.alloc_ (Ext.refl w) _
  have hr1 : (w.alloc (.cells (refLV A B C D c d a b r p).toArray 61)).rangeAt w.heap.size 0 [.string ⟨r.name.toArray⟩, .string ⟨r.pattern.toArray⟩, .string ⟨r.system.toArray⟩, .string ⟨r.decimal.toArray⟩, .string ⟨r.group.toArray⟩, .string ⟨r.minus.toArray⟩, .string ⟨r.percent.toArray⟩, .string ⟨r.currency.toArray⟩, .slice A p.pre.length c, .slice B p.suf.length d, .slice C p.npre.length a, .slice D p.nsuf.length b, .int .i64 p.num.prim, .int .i64 p.num.sec, .int .i64 p.num.minInt, .int .i64 p.num.minFrac, .int .i64 p.num.maxFrac] := b1.range
  have c10 := b1.cell (j := 8) (v := .slice A p.pre.length c) rfl
  have c11 := b1.cell (j := 9) (v := .slice B p.suf.length d) rfl
  have H1 : Hid (∀ W, Ext w W → Calls Tryz.prog 69 #[.agg ([.string ⟨r.name.toArray⟩, .string ⟨r.pattern.toArray⟩, .string ⟨r.system.toArray⟩, .string ⟨r.decimal.toArray⟩, .string ⟨r.group.toArray⟩, .string ⟨r.minus.toArray⟩, .string ⟨r.percent.toArray⟩, .string ⟨r.currency.toArray⟩, .slice A p.pre.length c, .slice B p.suf.length d, .slice C p.npre.length a, .slice D p.nsuf.length b, .int .i64 p.num.prim, .int .i64 p.num.sec, .int .i64 p.num.minInt, .int .i64 p.num.minFrac, .int .i64 p.num.maxFrac] : List Value).toArray, .slice A p.pre.length c] W fun e w' => ∃ E c', e = .returned (.slice E (ahead (locOf r p) false).length c') ∧ Row w' E (prtV (ahead (locOf r p) false)) ∧ Okc E c' ∧ Ext W w') := Lib.hid fun W hW =>
    ref_parts A B C D A c d a b _ c p.pre r p W h.may.b (hpt.ext hW).1 rfl hcap.1 (h.may.b.len _ (by simp [affs])) (h.pcs _ (by simp [affsP]))
  have H2 : Hid (∀ W, Ext w W → Calls Tryz.prog 69 #[.agg ([.string ⟨r.name.toArray⟩, .string ⟨r.pattern.toArray⟩, .string ⟨r.system.toArray⟩, .string ⟨r.decimal.toArray⟩, .string ⟨r.group.toArray⟩, .string ⟨r.minus.toArray⟩, .string ⟨r.percent.toArray⟩, .string ⟨r.currency.toArray⟩, .slice A p.pre.length c, .slice B p.suf.length d, .slice C p.npre.length a, .slice D p.nsuf.length b, .int .i64 p.num.prim, .int .i64 p.num.sec, .int .i64 p.num.minInt, .int .i64 p.num.minFrac, .int .i64 p.num.maxFrac] : List Value).toArray, .slice B p.suf.length d] W fun e w' => ∃ E c', e = .returned (.slice E (behind (locOf r p) false).length c') ∧ Row w' E (prtV (behind (locOf r p) false)) ∧ Okc E c' ∧ Ext W w') := Lib.hid fun W hW =>
    ref_parts A B C D B c d a b _ d p.suf r p W h.may.b (hpt.ext hW).2.1 rfl hcap.2.1 (h.may.b.len _ (by simp [affs])) (h.pcs _ (by simp [affsP]))
  have HX1 := Lib.hid hx1
  clear b1 hx1 h hpt hcap
  generalize ahead (locOf r p) false = L1 at *
  generalize behind (locOf r p) false = L2 at *
  go_enter Tryz.func21, Tryz.ntmps21
  go_upto_region 1 with fail
  change Code.wp _ _ _ _ (w.alloc (.cells (refLV A B C D c d a b r p).toArray 61))
  generalize w.alloc (.cells (refLV A B C D c d a b r p).toArray 61) = w1 at *
  generalize hlb : w.heap.size = lb at *
  clear hlb
  go_upto_region 3 with fail
  refine wp_region_noPanic ?_
  refine wp_region_held_drew (S := fun W => Ext w1 W ∧ W.rangeAt lb 0 [.string ⟨r.name.toArray⟩, .string ⟨r.pattern.toArray⟩, .string ⟨r.system.toArray⟩, .string ⟨r.decimal.toArray⟩, .string ⟨r.group.toArray⟩, .string ⟨r.minus.toArray⟩, .string ⟨r.percent.toArray⟩, .string ⟨r.currency.toArray⟩, .slice A p.pre.length c, .slice B p.suf.length d, .slice C p.npre.length a, .slice D p.nsuf.length b, .int .i64 p.num.prim, .int .i64 p.num.sec, .int .i64 p.num.minInt, .int .i64 p.num.minFrac, .int .i64 p.num.maxFrac] ∧ W.cell? ⟨lb, 8, none⟩ = some (.slice A p.pre.length c) ∧ W.cell? ⟨lb, 9, none⟩ = some (.slice B p.suf.length d)) (by kernel_rfl) ?_ (fun hHeld => ?_)
  · exact ⟨Ext.drew_ (Ext.refl _), hr1, c10, c11⟩
  refine takeRow_ (cs := [.string ⟨r.name.toArray⟩, .string ⟨r.pattern.toArray⟩, .string ⟨r.system.toArray⟩, .string ⟨r.decimal.toArray⟩, .string ⟨r.group.toArray⟩, .string ⟨r.minus.toArray⟩, .string ⟨r.percent.toArray⟩, .string ⟨r.currency.toArray⟩, .slice A p.pre.length c, .slice B p.suf.length d, .slice C p.npre.length a, .slice D p.nsuf.length b, .int .i64 p.num.prim, .int .i64 p.num.sec, .int .i64 p.num.minInt, .int .i64 p.num.minFrac, .int .i64 p.num.maxFrac]) 0 rfl (by kernel_rfl) (by kernel_rfl) (by kernel_rfl) (fun _ _ _ h => h) hHeld (by rfl) 61 ((.tmp 2)) rfl lb (0) rfl _ (fun _ h => h.2.1) Tryz.underlying61 rfl infoRL ?_
  try simp only [Act.put, List.setIfInBounds_toArray, List.set_cons_zero, List.set_cons_succ]
  refine take_ 1 (v := ?_) rfl (by kernel_rfl) (by kernel_rfl) (by kernel_rfl) (fun _ _ _ h => h) hHeld (by rfl) ?_ ?_
  rotate_left 1
  · (intro w hSw; (try dsimp only at hSw); go_simp; all_goals with_reducible rfl)
  try simp only [Act.put, List.setIfInBounds_toArray, List.set_cons_zero, List.set_cons_succ]
  refine take_ 2 (v := ?_) rfl (by kernel_rfl) (by kernel_rfl) (by kernel_rfl) (fun _ _ _ h => h) hHeld (by rfl) ?_ ?_
  rotate_left 1
  · (intro w hSw; (try dsimp only at hSw); go_simp; all_goals with_reducible rfl)
  try simp only [Act.put, List.setIfInBounds_toArray, List.set_cons_zero, List.set_cons_succ]
  refine take_ 3 (v := ?_) rfl (by kernel_rfl) (by kernel_rfl) (by kernel_rfl) (fun _ _ _ h => h) hHeld (by rfl) ?_ ?_
  rotate_left 1
  · (intro w hSw; (try dsimp only at hSw); go_simp; all_goals with_reducible rfl)
  try simp only [Act.put, List.setIfInBounds_toArray, List.set_cons_zero, List.set_cons_succ]
  refine takeRow_ (cs := [.string ⟨r.name.toArray⟩, .string ⟨r.pattern.toArray⟩, .string ⟨r.system.toArray⟩, .string ⟨r.decimal.toArray⟩, .string ⟨r.group.toArray⟩, .string ⟨r.minus.toArray⟩, .string ⟨r.percent.toArray⟩, .string ⟨r.currency.toArray⟩, .slice A p.pre.length c, .slice B p.suf.length d, .slice C p.npre.length a, .slice D p.nsuf.length b, .int .i64 p.num.prim, .int .i64 p.num.sec, .int .i64 p.num.minInt, .int .i64 p.num.minFrac, .int .i64 p.num.maxFrac]) 5 rfl (by kernel_rfl) (by kernel_rfl) (by kernel_rfl) (fun _ _ _ h => h) hHeld (by rfl) 61 ((.tmp 2)) rfl lb (0) rfl _ (fun _ h => h.2.1) Tryz.underlying61 rfl infoRL ?_
  try simp only [Act.put, List.setIfInBounds_toArray, List.set_cons_zero, List.set_cons_succ]
  refine take_ 6 (v := ?_) rfl (by kernel_rfl) (by kernel_rfl) (by kernel_rfl) (fun _ _ _ h => h) hHeld (by rfl) ?_ ?_
  rotate_left 1
  · (intro w hSw; (try dsimp only at hSw); go_simp; all_goals with_reducible rfl)
  try simp only [Act.put, List.setIfInBounds_toArray, List.set_cons_zero, List.set_cons_succ]
  refine take_ 7 (v := ?_) rfl (by kernel_rfl) (by kernel_rfl) (by kernel_rfl) (fun _ _ _ h => h) hHeld (by rfl) ?_ ?_
  rotate_left 1
  · (intro w hSw; (try dsimp only at hSw); go_simp; all_goals with_reducible rfl)
  try simp only [Act.put, List.setIfInBounds_toArray, List.set_cons_zero, List.set_cons_succ]
  refine take_ 8 (v := ?_) rfl (by kernel_rfl) (by kernel_rfl) (by kernel_rfl) (fun _ _ _ h => h) hHeld (by rfl) ?_ ?_
  rotate_left 1
  · (intro w hSw; (try dsimp only at hSw); go_simp; all_goals with_reducible rfl)
  try simp only [Act.put, List.setIfInBounds_toArray, List.set_cons_zero, List.set_cons_succ]
  refine only_ 4 rfl (by kernel_rfl) (fun K1 hK1 => ?_)
  go_simp
  go_at_call 69
  refine (H1.out _ (HX1.out.trans hHeld.1)).mono ?_
  rintro e w4 ⟨E, c1, rfl, hr4, ho4, hx4⟩
  have HR4 := Lib.hid hr4
  refine hK1.out _ _ (⟨hHeld.1.trans hx4, Ext.range_ hx4 hHeld.2.1, Ext.cell_ hx4 hHeld.2.2.1, Ext.cell_ hx4 hHeld.2.2.2⟩) (fun hHeld => ?_)
  clear hK1
  try simp only [Act.put, List.setIfInBounds_toArray, List.set_cons_zero, List.set_cons_succ]
  refine only_ 9 rfl (by kernel_rfl) (fun K1 hK1 => ?_)
  go_simp
  go_at_call 69
  refine (H2.out _ (HX1.out.trans hHeld.1)).mono ?_
  rintro e w5 ⟨F, c2, rfl, hr5, ho5, hx5⟩
  have hr4' := HR4.out.below hx5 (Nat.le_refl _)
  refine hK1.out _ _ (⟨hHeld.1.trans hx5, Ext.range_ hx5 hHeld.2.1, Ext.cell_ hx5 hHeld.2.2.1, Ext.cell_ hx5 hHeld.2.2.2⟩) (fun hHeld => ?_)
  clear hK1
  try simp only [Act.put, List.setIfInBounds_toArray, List.set_cons_zero, List.set_cons_succ]
  refine take_ 10 (v := ?_) rfl (by kernel_rfl) (by kernel_rfl) (by kernel_rfl) (fun _ _ _ h => h) hHeld (by rfl) ?_ ?_
  rotate_left 1
  · (intro w hSw; (try dsimp only at hSw); go_simp; all_goals with_reducible rfl)
  try simp only [Act.put, List.setIfInBounds_toArray, List.set_cons_zero, List.set_cons_succ]
  refine take_ 11 (v := ?_) rfl (by kernel_rfl) (by kernel_rfl) (by kernel_rfl) (fun _ _ _ h => h) hHeld (by rfl) ?_ ?_
  rotate_left 1
  · (intro w hSw; (try dsimp only at hSw); go_simp; all_goals with_reducible rfl)
  try simp only [Act.put, List.setIfInBounds_toArray, List.set_cons_zero, List.set_cons_succ]
  refine wpAnyH_done (by kernel_rfl) ?_ _
  refine NoPanic.normal ?_
  have HH := Lib.hid hHeld.1
  clear hHeld
  go_wp2
  go_ret2
  exact ⟨E, c1, F, c2, rfl, hr4', hr5, ho4, ho5, HX1.out.trans HH.out⟩
theorem ref_around (A B C D : Option Addr) (c d a b : Nat) (neg : Bool) (r : Rec) (p : Pt) (w : World) (h : Both r p) (hpt : PtR w A B C D p) (hcap : CapR p c d a b) :
    Calls Tryz.prog 21 #[.agg (refLV A B C D c d a b r p).toArray, .bool neg] w fun e w' => ∃ E c1 F c2, e = .returned (.tuple #[.slice E (ahead (locOf r p) neg).length c1, .slice F (behind (locOf r p) neg).length c2]) ∧ Row w' E (prtV (ahead (locOf r p) neg)) ∧ Row w' F (prtV (behind (locOf r p) neg)) ∧ Okc E c1 ∧ Okc F c2 ∧ Ext w w' := by
  cases neg
  · exact ref_around_false A B C D c d a b r p w h hpt hcap
  · exact ref_around_true A B C D c d a b r p w h hpt hcap
end Go.Proofs.YtdkjkbbibdppoaaGreatDoor.Loc
