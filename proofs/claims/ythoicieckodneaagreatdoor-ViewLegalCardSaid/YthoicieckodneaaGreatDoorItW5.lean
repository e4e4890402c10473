/- Walks: items as the document has them; are items the same?; bounds. (Printed by wip/gen/law15.py.) -/
import Derived.Test.YthoicieckodneaaGreatDoorItW4
import Derived.Test.YthoicieckodneaaGreatDoorItW3
import Derived.Test.YthoicieckodneaaGreatDoorLBegin
import Derived.Test.YthoicieckodneaaGreatDoorItP5
namespace Go.Proofs.YthoicieckodneaaGreatDoor.Loc
open Go.RowKit Utf All Small Strs Build EncC Pat Cls Dec Go.Proofs.YthoicieckodneaaGreatDoor.Sys
set_option linter.unusedVariables false
set_option linter.unusedSimpArgs false

theorem riStruct : Tryz.prog.underlying 103 = some (.struct (Tryz.prog.fieldsOf 103)) := by kernel_rfl
theorem riHeld : Tryz.prog.stoodInHeld 103 = false := by kernel_rfl
theorem riGuard : Tryz.prog.eqGuardType Tryz.prog.depth 103 = false := by kernel_rfl
theorem neq_it (x : It) (w : World) : (binOp .neq 103 (.agg #[.int .i64 x.1, .string ⟨x.2.1.toArray⟩, .int .i64 x.2.2]) (.agg #[.int .i64 x.1, .string ⟨x.2.1.toArray⟩, .int .i64 x.2.2])).run Tryz.prog w = .ok (.bool false) w := by
  have u3 := Tryz.underlying3
  have a3 := Tryz.isAgg3
  have z3 := Tryz.sizeOf3
  have u9 := Tryz.underlying9
  have a9 := Tryz.isAgg9
  have z9 := Tryz.sizeOf9
  obtain ⟨k, t, j⟩ := x
  rw [run_neq_struct, show (10000 : Nat) = 9999 + 1 from rfl, run_equalIn_agg w 9999 103 _ _ riStruct riHeld]
  simp only [Program.fieldsOf, Tryz.underlying103]
  go_simp
set_option maxHeartbeats 2000000 in
set_option maxRecDepth 100000 in
theorem as15 (E : Option Addr) (n c : Nat) (L : List It) (w : World) (hr : Row w E (itsV L)) (hn : L.length = n) (hl : n ≤ 5000) :
    Calls Tryz.prog 23 #[.slice E n c] w fun e w' => ∃ F c', e = .returned (.slice F n c') ∧ Row w' F (itsV L) ∧ Ext w w' := by
  have HR := Lib.hid hr
  have HN := Lib.hid hn
  have HALL : Hid (itsV (L.take n) = itsV L) := Lib.hid (by rw [List.take_of_length_le (by omega)])
  have HSN : Hid (∀ k (hk : k < L.length), itsV (L.take (k + 1)) = itsV (L.take k) ++ itV L[k]) := Lib.hid fun k hk => its_snoc hk
  have HIV : Hid (∀ x : It, itV x = [.int .i64 x.1, .string ⟨x.2.1.toArray⟩, .int .i64 x.2.2]) := Lib.hid fun x => rfl
  clear hr hn
  go_enter Tryz.func23, Tryz.ntmps23
  go_wp2
  go_loopw [3, 4] (fun v i wr => ∃ (k : Nat) (F : Option Addr) (c' : Nat), k ≤ n ∧ i = .int .i64 k ∧ v = .slice F k c' ∧ Acc 103 3 w wr F c' k (itsV (L.take k))) (fun _ i _ => n - (intOf i).toNat)
  case atStart => exact ⟨0, none, 0, Nat.zero_le _, rfl, rfl, Acc.start _ _ _⟩
  case round =>
    obtain ⟨k, F, c', hk, rfl, rfl, hacc⟩ := hrel
    by_cases hlt : k < n
    · have hkq : k < L.length := by have := HN.out; omega
      have HS := Lib.hid (HSN.out k hkq)
      obtain ⟨bx, ox, rfl, hg⟩ := row_it (HR.out.below hacc.ext (Nat.le_refl _)) hkq
      have HRG := Lib.hid hg
      have HA := Lib.hid hacc
      generalize L[k] = x at *
      generalize itsV (L.take k) = out at *
      have HS2 : Hid (itsV (L.take (k + 1)) = out ++ [.int .i64 x.1, .string ⟨x.2.1.toArray⟩, .int .i64 x.2.2]) := Lib.hid (by rw [HS.out, HIV.out])
      have i1 : (k : Int) < (n : Int) := by omega
      have i2 : (0 : Int) ≤ (k : Int) := by omega
      clear hacc hg
      go_wp2_with (first
        | (refine wpList_load_mid rfl 42 (.tmp 14) rfl bx (ox + k * 3) rfl [.int .i64 x.1, .string ⟨x.2.1.toArray⟩, .int .i64 x.2.2] _ HRG.out Tryz.underlying42 rfl infoIt ?_)
        | (at_builtin; refine wp_app ei_ri rfl (.tmp 11) (.tmp 16) rfl w _ F c' k _ rfl HA.out [.int .i64 x.1, .string ⟨x.2.1.toArray⟩, .int .i64 x.2.2] 1 1 rfl rfl (by simp [Value.oneCell']) (by omega) (by unfold maxLen; omega) ?_; intro A1 c1 w5 hA5 _ _))
      exact ⟨⟨k + 1, A1, c1, by omega, by go_num, rfl, by rw [HS2.out]; exact hA5⟩, by simp [intOf]; omega⟩
    · have e : k = n := by omega
      subst e
      have i1 : ¬ ((k : Int) < (k : Int)) := by omega
      rw [HALL.out] at hacc
      go_wp2
      go_ret
      exact ⟨F, ⟨c', rfl⟩, hacc.row, hacc.ext⟩
set_option maxHeartbeats 2000000 in
set_option maxRecDepth 100000 in
theorem same15 (E F : Option Addr) (n c c2 : Nat) (L : List It) (w : World) (hr : Row w E (itsV L)) (hq : Row w F (itsV L)) (hn : L.length = n) (hl : n ≤ 5000) :
    Calls Tryz.prog 22 #[.slice E n c, .slice F n c2] w fun e w' => e = .returned (.bool true) ∧ Ext w w' := by
  have HR := Lib.hid hr
  have HQ := Lib.hid hq
  have HN := Lib.hid hn
  clear hr hq hn
  have b0 : ((n : Int) != (n : Int)) = false := by simp
  go_enter Tryz.func22, Tryz.ntmps22
  go_wp2
  go_loopw [5] (fun i wr => ∃ k : Nat, k ≤ n ∧ i = .int .i64 k ∧ Ext w wr) (fun i _ => n - (intOf i).toNat)
  case atStart => exact ⟨0, Nat.zero_le _, rfl, Ext.refl _⟩
  case round =>
    obtain ⟨k, hk, rfl, hx⟩ := hrel
    by_cases hlt : k < n
    · have hkq : k < L.length := by have := HN.out; omega
      obtain ⟨bx, ox, rfl, hg1⟩ := row_it (HR.out.below hx (Nat.le_refl _)) hkq
      obtain ⟨by_, oy, rfl, hg2⟩ := row_it (HQ.out.below hx (Nat.le_refl _)) hkq
      generalize L[k] = x at *
      have i1 : (k : Int) < (n : Int) := by omega
      have i2 : (0 : Int) ≤ (k : Int) := by omega
      have hnp := fun w => neq_it x w
      have hgd : ∀ (o1 o2 : Operand) (w : World), (eqGuard .neq 103 o1 o2 (.agg #[.int .i64 x.1, .string ⟨x.2.1.toArray⟩, .int .i64 x.2.2]) (.agg #[.int .i64 x.1, .string ⟨x.2.1.toArray⟩, .int .i64 x.2.2])).run Tryz.prog w = .ok () w := fun _ _ w => run_eqGuard_agg w .neq 103 _ _ _ _ riGuard
      have HX := Lib.hid hx
      clear hx
      go_upto_region 6 with fail
      refine wp_region_noPanic ?_
      refine wp_region_held_drew (S := fun W => Ext wr W ∧ W.rangeAt bx (ox + k * 3) [.int .i64 x.1, .string ⟨x.2.1.toArray⟩, .int .i64 x.2.2] ∧ W.rangeAt by_ (oy + k * 3) [.int .i64 x.1, .string ⟨x.2.1.toArray⟩, .int .i64 x.2.2]) (by kernel_rfl) ?_ (fun hHeld => ?_)
      · exact ⟨Ext.drew_ (Ext.refl _), hg1, hg2⟩
      refine take_ 0 (v := ?_) rfl (by kernel_rfl) (by kernel_rfl) (by kernel_rfl) (fun _ _ _ h => h) hHeld (by rfl) ?_ ?_
      rotate_left 1
      · (intro w hSw; (try dsimp only at hSw); go_simp; all_goals with_reducible rfl)
      try simp only [Act.put, List.setIfInBounds_toArray, List.set_cons_zero, List.set_cons_succ]
      refine take_ 1 (v := ?_) rfl (by kernel_rfl) (by kernel_rfl) (by kernel_rfl) (fun _ _ _ h => h) hHeld (by rfl) ?_ ?_
      rotate_left 1
      · (intro w hSw; (try dsimp only at hSw); go_simp; all_goals with_reducible rfl)
      try simp only [Act.put, List.setIfInBounds_toArray, List.set_cons_zero, List.set_cons_succ]
      refine take_ 2 (v := ?_) rfl (by kernel_rfl) (by kernel_rfl) (by kernel_rfl) (fun _ _ _ h => h) hHeld (by rfl) ?_ ?_
      rotate_left 1
      · (intro w hSw; (try dsimp only at hSw); go_simp; all_goals with_reducible rfl)
      try simp only [Act.put, List.setIfInBounds_toArray, List.set_cons_zero, List.set_cons_succ]
      refine takeRow_ (cs := [.int .i64 x.1, .string ⟨x.2.1.toArray⟩, .int .i64 x.2.2]) 3 rfl (by kernel_rfl) (by kernel_rfl) (by kernel_rfl) (fun _ _ _ h => h) hHeld (by rfl) 103 ((.tmp 19)) rfl bx ((ox + k * 3)) rfl _ (fun _ h => h.2.1) Tryz.underlying103 rfl infoRi ?_
      try simp only [Act.put, List.setIfInBounds_toArray, List.set_cons_zero, List.set_cons_succ]
      refine take_ 4 (v := ?_) rfl (by kernel_rfl) (by kernel_rfl) (by kernel_rfl) (fun _ _ _ h => h) hHeld (by rfl) ?_ ?_
      rotate_left 1
      · (intro w hSw; (try dsimp only at hSw); go_simp; all_goals with_reducible rfl)
      try simp only [Act.put, List.setIfInBounds_toArray, List.set_cons_zero, List.set_cons_succ]
      refine take_ 5 (v := ?_) rfl (by kernel_rfl) (by kernel_rfl) (by kernel_rfl) (fun _ _ _ h => h) hHeld (by rfl) ?_ ?_
      rotate_left 1
      · (intro w hSw; (try dsimp only at hSw); go_simp; all_goals with_reducible rfl)
      try simp only [Act.put, List.setIfInBounds_toArray, List.set_cons_zero, List.set_cons_succ]
      refine take_ 6 (v := ?_) rfl (by kernel_rfl) (by kernel_rfl) (by kernel_rfl) (fun _ _ _ h => h) hHeld (by rfl) ?_ ?_
      rotate_left 1
      · (intro w hSw; (try dsimp only at hSw); go_simp; all_goals with_reducible rfl)
      try simp only [Act.put, List.setIfInBounds_toArray, List.set_cons_zero, List.set_cons_succ]
      refine takeRow_ (cs := [.int .i64 x.1, .string ⟨x.2.1.toArray⟩, .int .i64 x.2.2]) 7 rfl (by kernel_rfl) (by kernel_rfl) (by kernel_rfl) (fun _ _ _ h => h) hHeld (by rfl) 103 ((.tmp 23)) rfl by_ ((oy + k * 3)) rfl _ (fun _ h => h.2.2) Tryz.underlying103 rfl infoRi ?_
      try simp only [Act.put, List.setIfInBounds_toArray, List.set_cons_zero, List.set_cons_succ]
      refine take_ 8 (v := ?_) rfl (by kernel_rfl) (by kernel_rfl) (by kernel_rfl) (fun _ _ _ h => h) hHeld (by rfl) ?_ ?_
      rotate_left 1
      · (intro w hSw; (try dsimp only at hSw); go_simp; all_goals with_reducible rfl)
      try simp only [Act.put, List.setIfInBounds_toArray, List.set_cons_zero, List.set_cons_succ]
      refine wpAnyH_done (by kernel_rfl) ?_ _
      refine NoPanic.normal ?_
      have HH := Lib.hid hHeld.1
      clear hHeld
      go_wp2
      go_roundw
      case rel => exact ⟨k + 1, by omega, by go_num, HX.out.trans HH.out⟩
      case measure => simp [intOf]; omega
    · have e : k = n := by omega
      subst e
      have i1 : ¬ ((k : Int) < (k : Int)) := by omega
      go_wp2
      go_ret
      exact ⟨rfl, hx⟩
end Go.Proofs.YthoicieckodneaaGreatDoor.Loc
