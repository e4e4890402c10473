/- The law FortyMay: each of the forty may be, and its locale tells it. (Printed by wip/gen/lforty.py.) -/
import Derived.Test.YtdkjkbbibdppoaaGreatDoorLGet
import Derived.Test.YtdkjkbbibdppoaaGreatDoorLSym
import Derived.Test.YtdkjkbbibdppoaaGreatDoorForty8
import Derived.Test.YtdkjkbbibdppoaaGreatDoorForty9n
namespace Go.Proofs.YtdkjkbbibdppoaaGreatDoor.Loc
open Go.RowKit Utf All Small Strs Build EncC Pat Cls Dec Go.Proofs.YtdkjkbbibdppoaaGreatDoor.Sys
set_option linter.unusedVariables false
set_option linter.unusedSimpArgs false

theorem rrStruct : Tryz.prog.underlying 45 = some (.struct (Tryz.prog.fieldsOf 45)) := by kernel_rfl
theorem rrHeld : Tryz.prog.stoodInHeld 45 = false := by kernel_rfl
theorem rrGuard : Tryz.prog.eqGuardType Tryz.prog.depth 45 = false := by kernel_rfl
theorem eq_rr (r : Rec) (w : World) : (binOp .eql 45 (.agg ([.string ⟨r.name.toArray⟩, .string ⟨r.pattern.toArray⟩, .string ⟨r.system.toArray⟩, .string ⟨r.decimal.toArray⟩, .string ⟨r.group.toArray⟩, .string ⟨r.minus.toArray⟩, .string ⟨r.percent.toArray⟩, .string ⟨r.currency.toArray⟩] : List Value).toArray) (.agg ([.string ⟨r.name.toArray⟩, .string ⟨r.pattern.toArray⟩, .string ⟨r.system.toArray⟩, .string ⟨r.decimal.toArray⟩, .string ⟨r.group.toArray⟩, .string ⟨r.minus.toArray⟩, .string ⟨r.percent.toArray⟩, .string ⟨r.currency.toArray⟩] : List Value).toArray)).run Tryz.prog w = .ok (.bool true) w := by
  have u9 := Tryz.underlying9
  have a9 := Tryz.isAgg9
  have z9 := Tryz.sizeOf9
  rw [run_eql_struct, show (10000 : Nat) = 9999 + 1 from rfl, run_equalIn_agg w 9999 45 _ _ rrStruct rrHeld]
  simp only [Program.fieldsOf, Tryz.underlying45]
  go_simp
set_option maxHeartbeats 16000000 in
set_option maxRecDepth 1000000 in
theorem law_FortyMay (n : Int) (w : World) (hn : i64 n) (hT : Tabs w) : Calls Tryz.prog 10 #[.int .i64 n] w fun e w' => e = .returned (.bool true) ∧ Below w.heap.size w w' := by
  have hb := aroundF_bd n 40 (by omega)
  have hk : (aroundF n 40).toNat < 40 := by omega
  have HONE : Hid (Calls Tryz.prog 44 #[.int .i64 n] w fun e w' => e = .returned (.agg (recV (rec40 (aroundF n 40).toNat)).toArray) ∧ Ext w w') := Lib.hid (by
    have h := Forty.ref_one n w hn.1 hn.2
    rw [Forty.recV_L, ← rec40_V] at h
    exact h)
  generalize (aroundF n 40).toNat = k at *
  have HBO := Lib.hid (both_40 hk)
  have hfz : Forty.findZ ⟨(rec40 k).name.toArray⟩ = k := by
    have h := Forty.findZ_name k hk
    have e : (⟨(rec40 k).name.toArray⟩ : ByteArray) = Forty.nameAt k := by
      show (⟨(Forty.fldAt k 0).data.toList.toArray⟩ : ByteArray) = Forty.fldAt k 0
      exact bytes_ext (by simp)
    rw [e]; exact h
  have HREC := Lib.hid (fun W => rec_hit hfz W)
  have HGET : Hid (∀ W, Ext w W → Calls Tryz.prog 41 #[.string ⟨(rec40 k).name.toArray⟩] W fun e w' => ∃ g A B C D c d a b, e = .returned (.tuple #[.pointer (some ⟨g, 0, none⟩), .int .i64 0]) ∧ LocR w' g A B C D c d a b (locOf (rec40 k) (pat40 k)) ∧ Ext W w') := Lib.hid fun W hW => get_some _ k W hk hfz (hT.ext hW)
  have HNW : Hid (∀ W, Ext w W → Calls Tryz.prog 18 #[.agg (recV (rec40 k)).toArray] W fun e w' => ∃ g A B C D c d a b, e = .returned (.tuple #[.pointer (some ⟨g, 0, none⟩), .nilIface]) ∧ LocR w' g A B C D c d a b (locOf (rec40 k) (pat40 k)) ∧ Ext W w') := Lib.hid fun W hW =>
    new_ (rec40 k) (pat40 k) W HBO.out.pat (by have := HBO.out.plen; omega) HBO.out.nm HBO.out.may (hT.ext hW)
  clear hT hfz hb hk
  generalize rec40 k = r at *
  generalize pat40 k = p at *
  have HLV := Lib.hid Forty.law12_lives
  go_enter Tryz.func10, Tryz.ntmps10
  go_upto_region 2 with (first
    | (go_at_call 44; refine HONE.out.mono ?_; rintro e w1 ⟨rfl, hx1⟩)
    | (refine wpList_store_fresh rfl 45 (.tmp 3) (.tmp 15) rfl (recV r).toArray 45 _ rfl rfl infoR rfl (recs_one r) ?_))
  have hb2 := Box.new w1 45 (recV r)
  have hx2 : Ext w (w1.alloc (.cells (recV r).toArray 45)) := Ext.alloc_ hx1 _
  generalize w1.alloc (.cells (recV r).toArray 45) = w2 at *
  generalize w1.heap.size = b3 at *
  have k0 := hb2.cell (j := 0) (v := .string ⟨r.name.toArray⟩) rfl
  go_upto_region 3 with (first
    | (go_at_call 45; refine (HREC.out _).mono ?_; rintro e w3 ⟨rfl, hx3⟩)
    | (refine wpList_store_fresh rfl 52 (.tmp 4) (.tmp 20) rfl (recV r).toArray 52 _ rfl rfl infoRec rfl (recs_one r) ?_))
  have hb4 := Box.new w3 52 (recV r)
  have hx34 : Ext w3 (w3.alloc (.cells (recV r).toArray 52)) := Ext.alloc_ (Ext.refl _) _
  generalize w3.alloc (.cells (recV r).toArray 52) = w4 at *
  generalize w3.heap.size = b4 at *
  have hx24 := hx3.trans hx34
  have HB3 := Lib.hid (hb2.ext hx24)
  have HB4 := Lib.hid hb4
  have HX4 := Lib.hid (hx2.trans hx24)
  have k0 := HB3.out.cell (j := 0) (v := .string ⟨r.name.toArray⟩) rfl
  clear hb2 hb4 hx1 hx2 hx3 hx34 hx24 HONE HREC
  go_upto_region 4 with (go_at_call 41; refine (HGET.out _ HX4.out).mono ?_; rintro e w5 ⟨g, A, B, C, D, c, d, a, b, rfl, hL5, hx5⟩)
  have HL5 := Lib.hid hL5
  have hr5 : w5.rangeAt b4 0 [.string ⟨r.name.toArray⟩, .string ⟨r.pattern.toArray⟩, .string ⟨r.system.toArray⟩, .string ⟨r.decimal.toArray⟩, .string ⟨r.group.toArray⟩, .string ⟨r.minus.toArray⟩, .string ⟨r.percent.toArray⟩, .string ⟨r.currency.toArray⟩] := (HB4.out.ext hx5).range
  have HR5 := Lib.hid hr5
  have HX5 := Lib.hid hx5
  clear hL5 hr5 k0
  go_upto_region 7 with (first
    | (refine wpList_load_mid rfl 52 (.tmp 4) rfl b4 0 rfl _ _ HR5.out Tryz.underlying52 rfl infoRec ?_)
    | (go_at_call 18; refine (HNW.out _ (HX4.out.trans HX5.out)).mono ?_; rintro e w6 ⟨g2, A2, B2, C2, D2, c2, d2, a2, b2, rfl, hL6, hx6⟩))
  have HSZ1 := Lib.hid (fun W hW => sizes_l g A B C D c d a b (locOf r p) W ((HL5.out.ext hx6).ext hW))
  have HSZ2 := Lib.hid (fun W hW => sizes_l g2 A2 B2 C2 D2 c2 d2 a2 b2 (locOf r p) W (hL6.ext hW))
  have HRC : Hid (∀ W, Ext w6 W → Calls Tryz.prog 40 #[.pointer (some ⟨g, 0, none⟩)] W fun e w' => e = .returned (.agg ([.string ⟨r.name.toArray⟩, .string ⟨r.pattern.toArray⟩, .string ⟨r.system.toArray⟩, .string ⟨r.decimal.toArray⟩, .string ⟨r.group.toArray⟩, .string ⟨r.minus.toArray⟩, .string ⟨r.percent.toArray⟩, .string ⟨r.currency.toArray⟩] : List Value).toArray) ∧ Ext W w') := Lib.hid fun W hW => record_l g A B C D c d a b (locOf r p) W ((HL5.out.ext hx6).ext hW)
  have HSD : Hid (∀ W, Ext w6 W → Calls Tryz.prog 33 #[.pointer (some ⟨g, 0, none⟩), .string ⟨r.decimal.toArray⟩] W fun e w' => e = .returned (.int .i64 10) ∧ Ext W w') := Lib.hid fun W hW => by
    have h := sign_l g A B C D c d a b ⟨r.decimal.toArray⟩ (locOf r p) W ((HL5.out.ext hx6).ext hW) HBO.out.may.b
    have e := sign_sym HBO.out (n := 10) (by omega) (by omega)
    have e' : signZ (locOf r p) ⟨r.decimal.toArray⟩ = 10 := e
    rwa [e'] at h
  have HSM : Hid (∀ W, Ext w6 W → Calls Tryz.prog 33 #[.pointer (some ⟨g, 0, none⟩), .string ⟨r.minus.toArray⟩] W fun e w' => e = .returned (.int .i64 12) ∧ Ext W w') := Lib.hid fun W hW => by
    have h := sign_l g A B C D c d a b ⟨r.minus.toArray⟩ (locOf r p) W ((HL5.out.ext hx6).ext hW) HBO.out.may.b
    have e := sign_sym HBO.out (n := 12) (by omega) (by omega)
    have e' : signZ (locOf r p) ⟨r.minus.toArray⟩ = 12 := e
    rwa [e'] at h
  have hx46 := HX5.out.trans hx6
  have hr3 : w6.rangeAt b3 0 [.string ⟨r.name.toArray⟩, .string ⟨r.pattern.toArray⟩, .string ⟨r.system.toArray⟩, .string ⟨r.decimal.toArray⟩, .string ⟨r.group.toArray⟩, .string ⟨r.minus.toArray⟩, .string ⟨r.percent.toArray⟩, .string ⟨r.currency.toArray⟩] := (HB3.out.ext hx46).range
  have hr4 : w6.rangeAt b4 0 [.string ⟨r.name.toArray⟩, .string ⟨r.pattern.toArray⟩, .string ⟨r.system.toArray⟩, .string ⟨r.decimal.toArray⟩, .string ⟨r.group.toArray⟩, .string ⟨r.minus.toArray⟩, .string ⟨r.percent.toArray⟩, .string ⟨r.currency.toArray⟩] := (HB4.out.ext hx46).range
  have k3 := (HB4.out.ext hx46).cell (j := 3) (v := .string ⟨r.decimal.toArray⟩) rfl
  have k5 := (HB4.out.ext hx46).cell (j := 5) (v := .string ⟨r.minus.toArray⟩) rfl
  have HX6 := Lib.hid (HX4.out.trans hx46)
  have heq := eq_rec r
  have heq2 := eq_rr r
  have hgd : ∀ (o1 o2 : Operand) (w : World), (eqGuard .eql 52 o1 o2 (.agg ([.string ⟨r.name.toArray⟩, .string ⟨r.pattern.toArray⟩, .string ⟨r.system.toArray⟩, .string ⟨r.decimal.toArray⟩, .string ⟨r.group.toArray⟩, .string ⟨r.minus.toArray⟩, .string ⟨r.percent.toArray⟩, .string ⟨r.currency.toArray⟩] : List Value).toArray) (.agg ([.string ⟨r.name.toArray⟩, .string ⟨r.pattern.toArray⟩, .string ⟨r.system.toArray⟩, .string ⟨r.decimal.toArray⟩, .string ⟨r.group.toArray⟩, .string ⟨r.minus.toArray⟩, .string ⟨r.percent.toArray⟩, .string ⟨r.currency.toArray⟩] : List Value).toArray)).run Tryz.prog w = .ok () w := fun _ _ w => run_eqGuard_agg w .eql 52 _ _ _ _ rGuard
  have hgd2 : ∀ (o1 o2 : Operand) (w : World), (eqGuard .eql 45 o1 o2 (.agg ([.string ⟨r.name.toArray⟩, .string ⟨r.pattern.toArray⟩, .string ⟨r.system.toArray⟩, .string ⟨r.decimal.toArray⟩, .string ⟨r.group.toArray⟩, .string ⟨r.minus.toArray⟩, .string ⟨r.percent.toArray⟩, .string ⟨r.currency.toArray⟩] : List Value).toArray) (.agg ([.string ⟨r.name.toArray⟩, .string ⟨r.pattern.toArray⟩, .string ⟨r.system.toArray⟩, .string ⟨r.decimal.toArray⟩, .string ⟨r.group.toArray⟩, .string ⟨r.minus.toArray⟩, .string ⟨r.percent.toArray⟩, .string ⟨r.currency.toArray⟩] : List Value).toArray)).run Tryz.prog w = .ok () w := fun _ _ w => run_eqGuard_agg w .eql 45 _ _ _ _ rrGuard
  clear hx5 hx6 hL6 hx46 HB3 HB4 HL5 HNW HGET HBO
  have el1 : (locOf r p).p.num.prim = p.num.prim := rfl
  have el2 : (locOf r p).p.num.sec = p.num.sec := rfl
  rw [el1, el2] at HSZ1 HSZ2
  generalize p.num.prim = n1 at *
  generalize p.num.sec = n2 at *
  have hE := Ext.refl w6
  go_upto_region 9 with (first
    | (go_at_call 38; with_reducible refine (HSZ1.out _ hE).mono ?_; rintro e w7 ⟨rfl, hx7⟩; have hE := hE.trans hx7)
    | (go_at_call 38; with_reducible refine (HSZ2.out _ hE).mono ?_; rintro e w8 ⟨rfl, hx8⟩; have hE := hE.trans hx8))
  have hr3 := Ext.range_ hE hr3
  have hr4 := Ext.range_ hE hr4
  have k3 := Ext.cell_ hE k3
  have k5 := Ext.cell_ hE k5
  have HX8 := Lib.hid hE
  clear hE hx7 hx8
  refine wp_region_noPanic ?_
  refine wp_region_held_drew (S := fun W => Ext w8 W ∧ W.rangeAt b4 0 [.string ⟨r.name.toArray⟩, .string ⟨r.pattern.toArray⟩, .string ⟨r.system.toArray⟩, .string ⟨r.decimal.toArray⟩, .string ⟨r.group.toArray⟩, .string ⟨r.minus.toArray⟩, .string ⟨r.percent.toArray⟩, .string ⟨r.currency.toArray⟩] ∧ W.rangeAt b3 0 [.string ⟨r.name.toArray⟩, .string ⟨r.pattern.toArray⟩, .string ⟨r.system.toArray⟩, .string ⟨r.decimal.toArray⟩, .string ⟨r.group.toArray⟩, .string ⟨r.minus.toArray⟩, .string ⟨r.percent.toArray⟩, .string ⟨r.currency.toArray⟩] ∧ W.cell? ⟨b4, 3, none⟩ = some (.string ⟨r.decimal.toArray⟩) ∧ W.cell? ⟨b4, 5, none⟩ = some (.string ⟨r.minus.toArray⟩)) (by kernel_rfl) ?_ (fun hHeld => ?_)
  · exact ⟨Ext.drew_ (Ext.refl _), hr4, hr3, k3, k5⟩
  refine take_ 0 (v := ?_) rfl (by kernel_rfl) (by kernel_rfl) (by kernel_rfl) (fun _ _ _ h => h) hHeld (by rfl) ?_ ?_
  rotate_left 1
  · (intro w hSw; (try dsimp only at hSw); go_simp; all_goals with_reducible rfl)
  try simp only [Act.put, List.setIfInBounds_toArray, List.set_cons_zero, List.set_cons_succ]
  refine takeRow_ (cs := [.string ⟨r.name.toArray⟩, .string ⟨r.pattern.toArray⟩, .string ⟨r.system.toArray⟩, .string ⟨r.decimal.toArray⟩, .string ⟨r.group.toArray⟩, .string ⟨r.minus.toArray⟩, .string ⟨r.percent.toArray⟩, .string ⟨r.currency.toArray⟩]) 2 rfl (by kernel_rfl) (by kernel_rfl) (by kernel_rfl) (fun _ _ _ h => h) hHeld (by rfl) 52 ((.tmp 4)) rfl b4 (0) rfl _ (fun _ h => h.2.1) Tryz.underlying52 rfl infoRec ?_
  try simp only [Act.put, List.setIfInBounds_toArray, List.set_cons_zero, List.set_cons_succ]
  refine only_ 1 rfl (by kernel_rfl) (fun K1 hK1 => ?_)
  go_simp
  go_at_call 40
  refine (HRC.out _ (HX8.out.trans hHeld.1)).mono ?_
  rintro e w9 ⟨rfl, hx9⟩
  refine hK1.out _ _ (⟨hHeld.1.trans hx9, Ext.range_ hx9 hHeld.2.1, Ext.range_ hx9 hHeld.2.2.1, Ext.cell_ hx9 hHeld.2.2.2.1, Ext.cell_ hx9 hHeld.2.2.2.2⟩) (fun hHeld => ?_)
  clear hK1
  try simp only [Act.put, List.setIfInBounds_toArray, List.set_cons_zero, List.set_cons_succ]
  refine take_ 3 (v := ?_) rfl (by kernel_rfl) (by kernel_rfl) (by kernel_rfl) (fun _ _ _ h => h) hHeld (by rfl) ?_ ?_
  rotate_left 1
  · (intro w hSw; (try dsimp only at hSw); go_simp; all_goals with_reducible rfl)
  try simp only [Act.put, List.setIfInBounds_toArray, List.set_cons_zero, List.set_cons_succ]
  refine take_ 4 (v := ?_) rfl (by kernel_rfl) (by kernel_rfl) (by kernel_rfl) (fun _ _ _ h => h) hHeld (by rfl) ?_ ?_
  rotate_left 1
  · (intro w hSw; (try dsimp only at hSw); go_simp; all_goals with_reducible rfl)
  try simp only [Act.put, List.setIfInBounds_toArray, List.set_cons_zero, List.set_cons_succ]
  refine takeRow_ (cs := [.string ⟨r.name.toArray⟩, .string ⟨r.pattern.toArray⟩, .string ⟨r.system.toArray⟩, .string ⟨r.decimal.toArray⟩, .string ⟨r.group.toArray⟩, .string ⟨r.minus.toArray⟩, .string ⟨r.percent.toArray⟩, .string ⟨r.currency.toArray⟩]) 5 rfl (by kernel_rfl) (by kernel_rfl) (by kernel_rfl) (fun _ _ _ h => h) hHeld (by rfl) 52 ((.tmp 4)) rfl b4 (0) rfl _ (fun _ h => h.2.1) Tryz.underlying52 rfl infoRec ?_
  try simp only [Act.put, List.setIfInBounds_toArray, List.set_cons_zero, List.set_cons_succ]
  refine takeRow_ (cs := [.string ⟨r.name.toArray⟩, .string ⟨r.pattern.toArray⟩, .string ⟨r.system.toArray⟩, .string ⟨r.decimal.toArray⟩, .string ⟨r.group.toArray⟩, .string ⟨r.minus.toArray⟩, .string ⟨r.percent.toArray⟩, .string ⟨r.currency.toArray⟩]) 6 rfl (by kernel_rfl) (by kernel_rfl) (by kernel_rfl) (fun _ _ _ h => h) hHeld (by rfl) 45 ((.tmp 3)) rfl b3 (0) rfl _ (fun _ h => h.2.2.1) Tryz.underlying45 rfl infoR ?_
  try simp only [Act.put, List.setIfInBounds_toArray, List.set_cons_zero, List.set_cons_succ]
  refine take_ 7 (v := ?_) rfl (by kernel_rfl) (by kernel_rfl) (by kernel_rfl) (fun _ _ _ h => h) hHeld (by rfl) ?_ ?_
  rotate_left 1
  · (intro w hSw; (try dsimp only at hSw); go_simp; all_goals with_reducible rfl)
  try simp only [Act.put, List.setIfInBounds_toArray, List.set_cons_zero, List.set_cons_succ]
  refine take_ 8 (v := ?_) rfl (by kernel_rfl) (by kernel_rfl) (by kernel_rfl) (fun _ _ _ h => h) hHeld (by rfl) ?_ ?_
  rotate_left 1
  · (intro w hSw; (try dsimp only at hSw); go_simp; all_goals with_reducible rfl)
  try simp only [Act.put, List.setIfInBounds_toArray, List.set_cons_zero, List.set_cons_succ]
  refine take_ 9 (v := ?_) rfl (by kernel_rfl) (by kernel_rfl) (by kernel_rfl) (fun _ _ _ h => h) hHeld (by rfl) ?_ ?_
  rotate_left 1
  · (intro w hSw; (try dsimp only at hSw); go_simp; all_goals with_reducible rfl)
  try simp only [Act.put, List.setIfInBounds_toArray, List.set_cons_zero, List.set_cons_succ]
  refine take_ 10 (v := ?_) rfl (by kernel_rfl) (by kernel_rfl) (by kernel_rfl) (fun _ _ _ h => h) hHeld (by rfl) ?_ ?_
  rotate_left 1
  · (intro w hSw; (try dsimp only at hSw); go_simp; all_goals with_reducible rfl)
  try simp only [Act.put, List.setIfInBounds_toArray, List.set_cons_zero, List.set_cons_succ]
  refine take_ 11 (v := ?_) rfl (by kernel_rfl) (by kernel_rfl) (by kernel_rfl) (fun _ _ _ h => h) hHeld (by rfl) ?_ ?_
  rotate_left 1
  · (intro w hSw; (try dsimp only at hSw); go_simp; all_goals with_reducible rfl)
  try simp only [Act.put, List.setIfInBounds_toArray, List.set_cons_zero, List.set_cons_succ]
  refine take_ 12 (v := ?_) rfl (by kernel_rfl) (by kernel_rfl) (by kernel_rfl) (fun _ _ _ h => h) hHeld (by rfl) ?_ ?_
  rotate_left 1
  · (intro w hSw; (try dsimp only at hSw); go_simp; all_goals with_reducible rfl)
  try simp only [Act.put, List.setIfInBounds_toArray, List.set_cons_zero, List.set_cons_succ]
  refine take_ 13 (v := ?_) rfl (by kernel_rfl) (by kernel_rfl) (by kernel_rfl) (fun _ _ _ h => h) hHeld (by rfl) ?_ ?_
  rotate_left 1
  · (intro w hSw; (try dsimp only at hSw); go_simp; all_goals with_reducible rfl)
  try simp only [Act.put, List.setIfInBounds_toArray, List.set_cons_zero, List.set_cons_succ]
  refine take_ 14 (v := ?_) rfl (by kernel_rfl) (by kernel_rfl) (by kernel_rfl) (fun _ _ _ h => h) hHeld (by rfl) ?_ ?_
  rotate_left 1
  · (intro w hSw; (try dsimp only at hSw); go_simp; all_goals with_reducible rfl)
  try simp only [Act.put, List.setIfInBounds_toArray, List.set_cons_zero, List.set_cons_succ]
  refine take_ 15 (v := ?_) rfl (by kernel_rfl) (by kernel_rfl) (by kernel_rfl) (fun _ _ _ h => h) hHeld (by rfl) ?_ ?_
  rotate_left 1
  · (intro w hSw; (try dsimp only at hSw); go_simp; all_goals with_reducible rfl)
  try simp only [Act.put, List.setIfInBounds_toArray, List.set_cons_zero, List.set_cons_succ]
  refine take_ 16 (v := ?_) rfl (by kernel_rfl) (by kernel_rfl) (by kernel_rfl) (fun _ _ _ h => h) hHeld (by rfl) ?_ ?_
  rotate_left 1
  · (intro w hSw; (try dsimp only at hSw); go_simp; all_goals with_reducible rfl)
  try simp only [Act.put, List.setIfInBounds_toArray, List.set_cons_zero, List.set_cons_succ]
  refine take_ 17 (v := ?_) rfl (by kernel_rfl) (by kernel_rfl) (by kernel_rfl) (fun _ _ _ h => h) hHeld (by rfl) ?_ ?_
  rotate_left 1
  · (intro w hSw; (try dsimp only at hSw); go_simp; all_goals with_reducible rfl)
  try simp only [Act.put, List.setIfInBounds_toArray, List.set_cons_zero, List.set_cons_succ]
  refine take_ 18 (v := ?_) rfl (by kernel_rfl) (by kernel_rfl) (by kernel_rfl) (fun _ _ _ h => h) hHeld (by rfl) ?_ ?_
  rotate_left 1
  · (intro w hSw; (try dsimp only at hSw); go_simp; all_goals with_reducible rfl)
  try simp only [Act.put, List.setIfInBounds_toArray, List.set_cons_zero, List.set_cons_succ]
  refine take_ 19 (v := ?_) rfl (by kernel_rfl) (by kernel_rfl) (by kernel_rfl) (fun _ _ _ h => h) hHeld (by rfl) ?_ ?_
  rotate_left 1
  · (intro w hSw; (try dsimp only at hSw); go_simp; all_goals with_reducible rfl)
  try simp only [Act.put, List.setIfInBounds_toArray, List.set_cons_zero, List.set_cons_succ]
  refine take_ 20 (v := ?_) rfl (by kernel_rfl) (by kernel_rfl) (by kernel_rfl) (fun _ _ _ h => h) hHeld (by rfl) ?_ ?_
  rotate_left 1
  · (intro w hSw; (try dsimp only at hSw); go_simp; all_goals with_reducible rfl)
  try simp only [Act.put, List.setIfInBounds_toArray, List.set_cons_zero, List.set_cons_succ]
  refine take_ 21 (v := ?_) rfl (by kernel_rfl) (by kernel_rfl) (by kernel_rfl) (fun _ _ _ h => h) hHeld (by rfl) ?_ ?_
  rotate_left 1
  · (intro w hSw; (try dsimp only at hSw); go_simp; all_goals with_reducible rfl)
  try simp only [Act.put, List.setIfInBounds_toArray, List.set_cons_zero, List.set_cons_succ]
  refine take_ 22 (v := ?_) rfl (by kernel_rfl) (by kernel_rfl) (by kernel_rfl) (fun _ _ _ h => h) hHeld (by rfl) ?_ ?_
  rotate_left 1
  · (intro w hSw; (try dsimp only at hSw); go_simp; all_goals with_reducible rfl)
  try simp only [Act.put, List.setIfInBounds_toArray, List.set_cons_zero, List.set_cons_succ]
  refine only_ 23 rfl (by kernel_rfl) (fun K1 hK1 => ?_)
  go_simp
  go_at_call 33
  refine (HSD.out _ (HX8.out.trans hHeld.1)).mono ?_
  rintro e w9 ⟨rfl, hx9⟩
  refine hK1.out _ _ (⟨hHeld.1.trans hx9, Ext.range_ hx9 hHeld.2.1, Ext.range_ hx9 hHeld.2.2.1, Ext.cell_ hx9 hHeld.2.2.2.1, Ext.cell_ hx9 hHeld.2.2.2.2⟩) (fun hHeld => ?_)
  clear hK1
  try simp only [Act.put, List.setIfInBounds_toArray, List.set_cons_zero, List.set_cons_succ]
  refine take_ 24 (v := ?_) rfl (by kernel_rfl) (by kernel_rfl) (by kernel_rfl) (fun _ _ _ h => h) hHeld (by rfl) ?_ ?_
  rotate_left 1
  · (intro w hSw; (try dsimp only at hSw); go_simp; all_goals with_reducible rfl)
  try simp only [Act.put, List.setIfInBounds_toArray, List.set_cons_zero, List.set_cons_succ]
  refine take_ 25 (v := ?_) rfl (by kernel_rfl) (by kernel_rfl) (by kernel_rfl) (fun _ _ _ h => h) hHeld (by rfl) ?_ ?_
  rotate_left 1
  · (intro w hSw; (try dsimp only at hSw); go_simp; all_goals with_reducible rfl)
  try simp only [Act.put, List.setIfInBounds_toArray, List.set_cons_zero, List.set_cons_succ]
  refine take_ 26 (v := ?_) rfl (by kernel_rfl) (by kernel_rfl) (by kernel_rfl) (fun _ _ _ h => h) hHeld (by rfl) ?_ ?_
  rotate_left 1
  · (intro w hSw; (try dsimp only at hSw); go_simp; all_goals with_reducible rfl)
  try simp only [Act.put, List.setIfInBounds_toArray, List.set_cons_zero, List.set_cons_succ]
  refine take_ 27 (v := ?_) rfl (by kernel_rfl) (by kernel_rfl) (by kernel_rfl) (fun _ _ _ h => h) hHeld (by rfl) ?_ ?_
  rotate_left 1
  · (intro w hSw; (try dsimp only at hSw); go_simp; all_goals with_reducible rfl)
  try simp only [Act.put, List.setIfInBounds_toArray, List.set_cons_zero, List.set_cons_succ]
  refine take_ 28 (v := ?_) rfl (by kernel_rfl) (by kernel_rfl) (by kernel_rfl) (fun _ _ _ h => h) hHeld (by rfl) ?_ ?_
  rotate_left 1
  · (intro w hSw; (try dsimp only at hSw); go_simp; all_goals with_reducible rfl)
  try simp only [Act.put, List.setIfInBounds_toArray, List.set_cons_zero, List.set_cons_succ]
  refine take_ 29 (v := ?_) rfl (by kernel_rfl) (by kernel_rfl) (by kernel_rfl) (fun _ _ _ h => h) hHeld (by rfl) ?_ ?_
  rotate_left 1
  · (intro w hSw; (try dsimp only at hSw); go_simp; all_goals with_reducible rfl)
  try simp only [Act.put, List.setIfInBounds_toArray, List.set_cons_zero, List.set_cons_succ]
  refine only_ 30 rfl (by kernel_rfl) (fun K1 hK1 => ?_)
  go_simp
  go_at_call 33
  refine (HSM.out _ (HX8.out.trans hHeld.1)).mono ?_
  rintro e w9 ⟨rfl, hx9⟩
  refine hK1.out _ _ (⟨hHeld.1.trans hx9, Ext.range_ hx9 hHeld.2.1, Ext.range_ hx9 hHeld.2.2.1, Ext.cell_ hx9 hHeld.2.2.2.1, Ext.cell_ hx9 hHeld.2.2.2.2⟩) (fun hHeld => ?_)
  clear hK1
  try simp only [Act.put, List.setIfInBounds_toArray, List.set_cons_zero, List.set_cons_succ]
  refine take_ 31 (v := ?_) rfl (by kernel_rfl) (by kernel_rfl) (by kernel_rfl) (fun _ _ _ h => h) hHeld (by rfl) ?_ ?_
  rotate_left 1
  · (intro w hSw; (try dsimp only at hSw); go_simp; all_goals with_reducible rfl)
  try simp only [Act.put, List.setIfInBounds_toArray, List.set_cons_zero, List.set_cons_succ]
  refine take_ 32 (v := ?_) rfl (by kernel_rfl) (by kernel_rfl) (by kernel_rfl) (fun _ _ _ h => h) hHeld (by rfl) ?_ ?_
  rotate_left 1
  · (intro w hSw; (try dsimp only at hSw); go_simp; all_goals with_reducible rfl)
  try simp only [Act.put, List.setIfInBounds_toArray, List.set_cons_zero, List.set_cons_succ]
  refine take_ 33 (v := ?_) rfl (by kernel_rfl) (by kernel_rfl) (by kernel_rfl) (fun _ _ _ h => h) hHeld (by rfl) ?_ ?_
  rotate_left 1
  · (intro w hSw; (try dsimp only at hSw); go_simp; all_goals with_reducible rfl)
  try simp only [Act.put, List.setIfInBounds_toArray, List.set_cons_zero, List.set_cons_succ]
  refine only_ 34 rfl (by kernel_rfl) (fun K1 hK1 => ?_)
  go_simp
  go_at_call 43
  refine (HLV.out _).mono ?_
  rintro e w9 ⟨rfl, hx9⟩
  refine hK1.out _ _ (⟨hHeld.1.trans hx9, Ext.range_ hx9 hHeld.2.1, Ext.range_ hx9 hHeld.2.2.1, Ext.cell_ hx9 hHeld.2.2.2.1, Ext.cell_ hx9 hHeld.2.2.2.2⟩) (fun hHeld => ?_)
  clear hK1
  try simp only [Act.put, List.setIfInBounds_toArray, List.set_cons_zero, List.set_cons_succ]
  refine take_ 35 (v := ?_) rfl (by kernel_rfl) (by kernel_rfl) (by kernel_rfl) (fun _ _ _ h => h) hHeld (by rfl) ?_ ?_
  rotate_left 1
  · (intro w hSw; (try dsimp only at hSw); go_simp; all_goals with_reducible rfl)
  try simp only [Act.put, List.setIfInBounds_toArray, List.set_cons_zero, List.set_cons_succ]
  refine take_ 36 (v := ?_) rfl (by kernel_rfl) (by kernel_rfl) (by kernel_rfl) (fun _ _ _ h => h) hHeld (by rfl) ?_ ?_
  rotate_left 1
  · (intro w hSw; (try dsimp only at hSw); go_simp; all_goals with_reducible rfl)
  try simp only [Act.put, List.setIfInBounds_toArray, List.set_cons_zero, List.set_cons_succ]
  refine wpAnyH_done (by kernel_rfl) ?_ _
  refine NoPanic.normal ?_
  go_wp2
  go_ret
  exact ⟨rfl, HX6.out.trans (HX8.out.trans hHeld.1)⟩
end Go.Proofs.YtdkjkbbibdppoaaGreatDoor.Loc
