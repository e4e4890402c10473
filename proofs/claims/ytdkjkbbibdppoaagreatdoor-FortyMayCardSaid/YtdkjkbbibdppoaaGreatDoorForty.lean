/- Walks: the forty records. -/
import Derived.Test.YtdkjkbbibdppoaaGreatDoorFortyD
import Derived.Test.YtdkjkbbibdppoaaGreatDoorJBase
import Derived.Deep.DeepCutAuto
namespace Go.Proofs.YtdkjkbbibdppoaaGreatDoor.Forty
open Go.RowKit
set_option linter.unusedVariables false
set_option linter.unusedSimpArgs false

/-- operations in a row that yield a value each, reckoned -/
def stepV (P : Program) : List Oper → Act → World → Option (Act × World)
  | [], a, w => some (a, w)
  | o :: l, a, w => match o.guard with
    | some _ => none
    | none => match (execOp a.eval o).run P w with
      | .ok (.value v) w' => stepV P l (a.put o.dst v) w'
      | .ok .skip w' => stepV P l (a.put o.dst undef) w'
      | _ => none
theorem wpList_stepV {P : Program} {ops : Array Oper} {Q : Exit → Act → World → Prop} : ∀ (l : List Oper) (a : Act) (w : World) (a' : Act) (w' : World), stepV P l a w = some (a', w') → Q .normal a' w' → wpList P ops Q l a w
  | [], a, w, a', w', h, hq => by simp only [stepV, Option.some.injEq, Prod.mk.injEq] at h; rw [wpList, h.1, h.2]; exact hq
  | o :: l, a, w, a', w', h, hq => by
    unfold stepV at h
    cases hg : o.guard with
    | some g => rw [hg] at h; cases h
    | none =>
      rw [hg] at h
      refine wpList_plain hg fun K hK => ?_
      unfold Oper.wp
      dsimp only at h
      split at h
      · rename_i v w1 hr
        rw [hr, Oper.upon_value]
        exact hK _ _ (wpList_stepV l _ _ _ _ h hq)
      · rename_i w1 hr
        rw [hr, Oper.upon_skip]
        exact hK _ _ (wpList_stepV l _ _ _ _ h hq)
      · cases h

theorem cells40_row (w : World) (e : TypeId) : Row (w.alloc (.cells cells40.toArray e)) (some ⟨w.heap.size, 0, none⟩) cells40 := row_new w cells40 e
/-- the slots of a walk that has built the forty -/
def slots40 (v : Value) : Array Value := #[v] ++ ((List.range 40).map recV).toArray ++ #[v]
theorem slots40_0 (v : Value) : (slots40 v)[0]?.getD undef = v := by simp [slots40]
set_option maxHeartbeats 4000000 in
set_option maxRecDepth 1000000 in
theorem forty_records (w : World) : Calls Tryz.prog 143 #[] w fun e w' => e = .returned (.slice (some ⟨w.heap.size, 0, none⟩) 40 40) ∧ w' = w.alloc (.cells cells40.toArray 52) := by
  go_enter Tryz.func143, Tryz.ntmps143
  go_upto_region 1 with fail
  refine wp_region_lit (wpList_stepV _ _ _ ⟨slots40 (.slice (some ⟨w.heap.size, 0, none⟩) 40 40), []⟩ (w.alloc (.cells cells40.toArray 52)) (by kernel_rfl) ?_)
  have HT := slots40_0 (.slice (some ⟨w.heap.size, 0, none⟩) 40 40)
  generalize slots40 (.slice (some ⟨w.heap.size, 0, none⟩) 40 40) = T at *
  generalize hw1 : w.alloc (.cells cells40.toArray 52) = w1 at *
  have HW := Lib.hid hw1.symm
  clear hw1
  go_wp2_with fail
  refine bodyPost_ret (v := .slice (some ⟨w.heap.size, 0, none⟩) 40 40) (by simp [results, Tryz.results143, go_sem, HT]) rfl ?_
  exact ⟨rfl, HW.out⟩
set_option maxHeartbeats 4000000 in
set_option maxRecDepth 1000000 in
theorem ref_records (w : World) : Calls Tryz.prog 89 #[] w fun e w' => ∃ A, e = .returned (.slice A 40 40) ∧ Row w' A cells40 ∧ Ext w w' := by
  go_enter Tryz.func89, Tryz.ntmps89
  go_upto_region 1 with fail
  have hr := cells40_row w 45
  have hx : Ext w (w.alloc (.cells cells40.toArray 45)) := (Below.refl _ _).alloc (Nat.le_refl _) _
  refine wp_region_lit (wpList_stepV _ _ _ ⟨slots40 (.slice (some ⟨w.heap.size, 0, none⟩) 40 40), []⟩ (w.alloc (.cells cells40.toArray 45)) (by kernel_rfl) ?_)
  have HT := slots40_0 (.slice (some ⟨w.heap.size, 0, none⟩) 40 40)
  generalize slots40 (.slice (some ⟨w.heap.size, 0, none⟩) 40 40) = T at *
  generalize w.alloc (.cells cells40.toArray 45) = w1 at *
  go_wp2_with fail
  refine bodyPost_ret (v := .slice (some ⟨w.heap.size, 0, none⟩) 40 40) (by simp [results, Tryz.results89, go_sem, HT]) rfl ?_
  exact ⟨_, rfl, hr, hx⟩
end Go.Proofs.YtdkjkbbibdppoaaGreatDoor.Forty
