/- Walks: forty.Get. (Printed by wip/gen/lforty.py.) -/
import Derived.Test.YtdkjkbbibdppoaaGreatDoorLForty
import Derived.Test.YtdkjkbbibdppoaaGreatDoorLTell
namespace Go.Proofs.YtdkjkbbibdppoaaGreatDoor.Loc
open Go.RowKit Utf All Small Strs Build EncC Pat Cls Dec Go.Proofs.YtdkjkbbibdppoaaGreatDoor.Sys
set_option linter.unusedVariables false
set_option linter.unusedSimpArgs false

theorem rec_miss {s : ByteArray} (h : ¬ 0 ≤ Forty.findZ s) (W : World) : Calls Tryz.prog 45 #[.string s] W fun e w' => e = .returned (.tuple #[.agg Forty.zero8.toArray, .int .i64 7]) ∧ Ext W w' := by
  have hr := Forty.forty_record s W
  rw [show Forty.recR s = Forty.zero8 by unfold Forty.recR; rw [if_neg h], show Forty.recE s = 7 by unfold Forty.recE; rw [if_neg h]] at hr
  exact hr
theorem rec_hit {s : ByteArray} {k : Nat} (h : Forty.findZ s = k) (W : World) : Calls Tryz.prog 45 #[.string s] W fun e w' => e = .returned (.tuple #[.agg (recV (rec40 k)).toArray, .int .i64 0]) ∧ Ext W w' := by
  have hr := Forty.forty_record s W
  rw [show Forty.recR s = recV (rec40 k) by unfold Forty.recR; rw [h, if_pos (by omega), Int.toNat_natCast, rec40_V], show Forty.recE s = 0 by unfold Forty.recE; rw [h, if_pos (by omega)]] at hr
  exact hr
theorem zero8_one' : Forty.zero8.toArray.all (·.oneCell') = true := by simp [Forty.zero8, Value.oneCell']
set_option maxHeartbeats 4000000 in
set_option maxRecDepth 100000 in
theorem get_none (s : ByteArray) (w : World) (h : ¬ 0 ≤ Forty.findZ s) : Calls Tryz.prog 41 #[.string s] w fun e w' => e = .returned (.tuple #[.pointer none, .int .i64 7]) ∧ Ext w w' := by
  have HR := Lib.hid (rec_miss h w)
  go_enter Tryz.func41, Tryz.ntmps41
  go_upto_region 2 with (first
    | (go_at_call 45; refine HR.out.mono ?_; rintro e w1 ⟨rfl, hx1⟩)
    | (refine wpList_store_fresh rfl 52 (.tmp 4) (.tmp 11) rfl Forty.zero8.toArray 52 _ rfl rfl infoRec rfl zero8_one' ?_))
  have hx2 : Ext w (w1.alloc (.cells Forty.zero8.toArray 52)) := Ext.alloc_ hx1 _
  generalize w1.alloc (.cells Forty.zero8.toArray 52) = w2 at *
  go_wp2
  go_ret2
  exact ⟨rfl, hx2⟩
set_option maxHeartbeats 4000000 in
set_option maxRecDepth 100000 in
theorem get_some (s : ByteArray) (k : Nat) (w : World) (hk : k < 40) (h : Forty.findZ s = k) (hT : Tabs w) : Calls Tryz.prog 41 #[.string s] w fun e w' => ∃ g A B C D c d a b, e = .returned (.tuple #[.pointer (some ⟨g, 0, none⟩), .int .i64 0]) ∧ LocR w' g A B C D c d a b (locOf (rec40 k) (pat40 k)) ∧ Ext w w' := by
  have HR := Lib.hid (rec_hit h w)
  have HB := Lib.hid (both_40 hk)
  have HNW : Hid (∀ W, Ext w W → Calls Tryz.prog 18 #[.agg (recV (rec40 k)).toArray] W fun e w' => ∃ g A B C D c d a b, e = .returned (.tuple #[.pointer (some ⟨g, 0, none⟩), .nilIface]) ∧ LocR w' g A B C D c d a b (locOf (rec40 k) (pat40 k)) ∧ Ext W w') := Lib.hid fun W hW =>
    new_ (rec40 k) (pat40 k) W HB.out.pat (by have := HB.out.plen; omega) HB.out.nm HB.out.may (hT.ext hW)
  generalize hr : rec40 k = r at *
  clear hr
  go_enter Tryz.func41, Tryz.ntmps41
  go_upto_region 2 with (first
    | (go_at_call 45; refine HR.out.mono ?_; rintro e w1 ⟨rfl, hx1⟩)
    | (refine wpList_store_fresh rfl 52 (.tmp 4) (.tmp 11) rfl (recV r).toArray 52 _ rfl rfl infoRec rfl (recs_one r) ?_))
  have hb2 := Box.new w1 52 (recV r)
  have hx2 : Ext w (w1.alloc (.cells (recV r).toArray 52)) := Ext.alloc_ hx1 _
  generalize w1.alloc (.cells (recV r).toArray 52) = w2 at *
  generalize w1.heap.size = rb at *
  have hr2 : w2.rangeAt rb 0 [.string ⟨r.name.toArray⟩, .string ⟨r.pattern.toArray⟩, .string ⟨r.system.toArray⟩, .string ⟨r.decimal.toArray⟩, .string ⟨r.group.toArray⟩, .string ⟨r.minus.toArray⟩, .string ⟨r.percent.toArray⟩, .string ⟨r.currency.toArray⟩] := hb2.range
  have HR2 := Lib.hid hr2
  clear hb2 hr2 hx1 HR
  go_wp2_with (first
    | (refine wpList_load_mid rfl 52 (.tmp 4) rfl rb 0 rfl _ _ HR2.out Tryz.underlying52 rfl infoRec ?_)
    | (go_at_call 18; refine (HNW.out _ hx2).mono ?_; rintro e w3 ⟨g, A, B, C, D, c, d, a, b, rfl, hL, hx3⟩))
  go_ret2
  exact ⟨g, A, B, C, D, c, d, a, b, rfl, hL, hx2.trans hx3⟩
end Go.Proofs.YtdkjkbbibdppoaaGreatDoor.Loc
