/- Joined by wip/join.py: FortyD Forty Forty2 Forty3 Forty4 Forty5 Forty6 Forty7 QTail Forty8 Forty9n. -/
import Derived.Test.YthoicieckodneaaGreatDoorJBase
import Derived.Deep.DeepCutAuto
import Derived.Test.YthoicieckodneaaGreatDoorJUtf
import Derived.RangeFuncNested
import Derived.RangeFuncBound
import Derived.RangeFuncCalls
import Derived.RangeFuncLeaves
import Derived.RangeFuncBox
import Derived.Shelf.Abstract
import Derived.Shelf.RegionOpen
import Derived.WalkKit
import Derived.OwnWalkIn
import Derived.TacticsInMore
import Derived.LoopNIn
import Derived.LoopIn
import Derived.Maps.AppendAt
import Derived.Deep.WholeRow
import Derived.StillTail
import Derived.Deep.Quiet
import Derived.Deep.QuietTactic
import Derived.BigQuiet
import Derived.Deep.RegionLaw
/- The forty records, as lists of bytes; no program. -/
namespace Go.Proofs.YthoicieckodneaaGreatDoor.Forty
open Go.RowKit
set_option linter.unusedVariables false
set_option linter.unusedSimpArgs false
set_option maxRecDepth 100000

def recs : List (List ByteArray) := [
  [⟨#[97, 114, 45, 69, 71]⟩, ⟨#[194, 164, 35, 44, 35, 35, 48, 46, 48, 48]⟩, ⟨#[97, 114, 97, 98]⟩, ⟨#[217, 171]⟩, ⟨#[217, 172]⟩, ⟨#[45]⟩, ⟨#[217, 170]⟩, ⟨#[69, 71, 80]⟩],
  [⟨#[98, 103, 45, 66, 71]⟩, ⟨#[48, 46, 48, 48, 194, 160, 194, 164]⟩, ⟨#[108, 97, 116, 110]⟩, ⟨#[44]⟩, ⟨#[]⟩, ⟨#[45]⟩, ⟨#[37]⟩, ⟨#[66, 71, 78]⟩],
  [⟨#[98, 110, 45, 66, 68]⟩, ⟨#[35, 44, 35, 35, 44, 35, 35, 48, 46, 48, 48, 194, 164]⟩, ⟨#[98, 101, 110, 103]⟩, ⟨#[46]⟩, ⟨#[44]⟩, ⟨#[45]⟩, ⟨#[37]⟩, ⟨#[224, 167, 179]⟩],
  [⟨#[99, 115, 45, 67, 90]⟩, ⟨#[35, 44, 35, 35, 48, 46, 48, 48, 194, 160, 194, 164]⟩, ⟨#[108, 97, 116, 110]⟩, ⟨#[44]⟩, ⟨#[226, 128, 175]⟩, ⟨#[45]⟩, ⟨#[37]⟩, ⟨#[75, 196, 141]⟩],
  [⟨#[100, 97, 45, 68, 75]⟩, ⟨#[35, 44, 35, 35, 48, 46, 48, 48, 194, 160, 194, 164]⟩, ⟨#[108, 97, 116, 110]⟩, ⟨#[44]⟩, ⟨#[46]⟩, ⟨#[45]⟩, ⟨#[37]⟩, ⟨#[107, 114]⟩],
  [⟨#[100, 101, 45, 65, 84]⟩, ⟨#[194, 164, 194, 160, 35, 44, 35, 35, 48, 46, 48, 48]⟩, ⟨#[108, 97, 116, 110]⟩, ⟨#[44]⟩, ⟨#[46]⟩, ⟨#[45]⟩, ⟨#[37]⟩, ⟨#[226, 130, 172]⟩],
  [⟨#[100, 101, 45, 67, 72]⟩, ⟨#[194, 164, 194, 160, 35, 44, 35, 35, 48, 46, 48, 48, 59, 194, 164, 45, 35, 44, 35, 35, 48, 46, 48, 48]⟩, ⟨#[108, 97, 116, 110]⟩, ⟨#[46]⟩, ⟨#[226, 128, 153]⟩, ⟨#[45]⟩, ⟨#[37]⟩, ⟨#[67, 72, 70]⟩],
  [⟨#[100, 101, 45, 68, 69]⟩, ⟨#[35, 44, 35, 35, 48, 46, 48, 48, 194, 160, 194, 164]⟩, ⟨#[108, 97, 116, 110]⟩, ⟨#[44]⟩, ⟨#[46]⟩, ⟨#[45]⟩, ⟨#[37]⟩, ⟨#[226, 130, 172]⟩],
  [⟨#[100, 122, 45, 66, 84]⟩, ⟨#[194, 164, 35, 44, 35, 35, 44, 35, 35, 48, 46, 48, 48]⟩, ⟨#[116, 105, 98, 116]⟩, ⟨#[46]⟩, ⟨#[44]⟩, ⟨#[45]⟩, ⟨#[37]⟩, ⟨#[78, 117]⟩],
  [⟨#[101, 108, 45, 71, 82]⟩, ⟨#[35, 44, 35, 35, 48, 46, 48, 48, 194, 160, 194, 164]⟩, ⟨#[108, 97, 116, 110]⟩, ⟨#[44]⟩, ⟨#[46]⟩, ⟨#[45]⟩, ⟨#[37]⟩, ⟨#[226, 130, 172]⟩],
  [⟨#[101, 110, 45, 71, 66]⟩, ⟨#[194, 164, 35, 44, 35, 35, 48, 46, 48, 48]⟩, ⟨#[108, 97, 116, 110]⟩, ⟨#[46]⟩, ⟨#[44]⟩, ⟨#[45]⟩, ⟨#[37]⟩, ⟨#[194, 163]⟩],
  [⟨#[101, 110, 45, 73, 78]⟩, ⟨#[194, 164, 35, 44, 35, 35, 44, 35, 35, 48, 46, 48, 48]⟩, ⟨#[108, 97, 116, 110]⟩, ⟨#[46]⟩, ⟨#[44]⟩, ⟨#[45]⟩, ⟨#[37]⟩, ⟨#[226, 130, 185]⟩],
  [⟨#[101, 110, 45, 85, 83]⟩, ⟨#[194, 164, 35, 44, 35, 35, 48, 46, 48, 48]⟩, ⟨#[108, 97, 116, 110]⟩, ⟨#[46]⟩, ⟨#[44]⟩, ⟨#[45]⟩, ⟨#[37]⟩, ⟨#[36]⟩],
  [⟨#[101, 115, 45, 69, 83]⟩, ⟨#[35, 44, 35, 35, 48, 46, 48, 48, 194, 160, 194, 164]⟩, ⟨#[108, 97, 116, 110]⟩, ⟨#[44]⟩, ⟨#[46]⟩, ⟨#[45]⟩, ⟨#[37]⟩, ⟨#[226, 130, 172]⟩],
  [⟨#[101, 116, 45, 69, 69]⟩, ⟨#[35, 44, 35, 35, 48, 46, 48, 48, 194, 160, 194, 164]⟩, ⟨#[108, 97, 116, 110]⟩, ⟨#[44]⟩, ⟨#[226, 128, 175]⟩, ⟨#[226, 136, 146]⟩, ⟨#[37]⟩, ⟨#[226, 130, 172]⟩],
  [⟨#[102, 97, 45, 73, 82]⟩, ⟨#[35, 44, 35, 35, 48, 46, 48, 48]⟩, ⟨#[97, 114, 97, 98, 101, 120, 116]⟩, ⟨#[217, 171]⟩, ⟨#[217, 172]⟩, ⟨#[226, 136, 146]⟩, ⟨#[217, 170]⟩, ⟨#[]⟩],
  [⟨#[102, 105, 45, 70, 73]⟩, ⟨#[35, 44, 35, 35, 48, 46, 48, 48, 194, 160, 194, 164]⟩, ⟨#[108, 97, 116, 110]⟩, ⟨#[44]⟩, ⟨#[226, 128, 175]⟩, ⟨#[226, 136, 146]⟩, ⟨#[37]⟩, ⟨#[226, 130, 172]⟩],
  [⟨#[102, 114, 45, 67, 65]⟩, ⟨#[35, 44, 35, 35, 48, 46, 48, 48, 194, 160, 194, 164]⟩, ⟨#[108, 97, 116, 110]⟩, ⟨#[44]⟩, ⟨#[226, 128, 175]⟩, ⟨#[45]⟩, ⟨#[37]⟩, ⟨#[36]⟩],
  [⟨#[102, 114, 45, 70, 82]⟩, ⟨#[35, 44, 35, 35, 48, 46, 48, 48, 194, 160, 194, 164]⟩, ⟨#[108, 97, 116, 110]⟩, ⟨#[44]⟩, ⟨#[226, 128, 175]⟩, ⟨#[45]⟩, ⟨#[37]⟩, ⟨#[226, 130, 172]⟩],
  [⟨#[103, 117, 45, 73, 78]⟩, ⟨#[194, 164, 35, 44, 35, 35, 44, 35, 35, 48, 46, 48, 48]⟩, ⟨#[103, 117, 106, 114]⟩, ⟨#[46]⟩, ⟨#[44]⟩, ⟨#[45]⟩, ⟨#[37]⟩, ⟨#[226, 130, 185]⟩],
  [⟨#[104, 101, 45, 73, 76]⟩, ⟨#[35, 44, 35, 35, 48, 46, 48, 48, 194, 160, 194, 164]⟩, ⟨#[108, 97, 116, 110]⟩, ⟨#[46]⟩, ⟨#[44]⟩, ⟨#[45]⟩, ⟨#[37]⟩, ⟨#[226, 130, 170]⟩],
  [⟨#[104, 105, 45, 73, 78]⟩, ⟨#[194, 164, 35, 44, 35, 35, 44, 35, 35, 48, 46, 48, 48]⟩, ⟨#[100, 101, 118, 97]⟩, ⟨#[46]⟩, ⟨#[44]⟩, ⟨#[45]⟩, ⟨#[37]⟩, ⟨#[226, 130, 185]⟩],
  [⟨#[104, 117, 45, 72, 85]⟩, ⟨#[35, 44, 35, 35, 48, 46, 48, 48, 194, 160, 194, 164]⟩, ⟨#[108, 97, 116, 110]⟩, ⟨#[44]⟩, ⟨#[226, 128, 175]⟩, ⟨#[45]⟩, ⟨#[37]⟩, ⟨#[70, 116]⟩],
  [⟨#[105, 100, 45, 73, 68]⟩, ⟨#[194, 164, 194, 160, 35, 44, 35, 35, 48, 46, 48, 48]⟩, ⟨#[108, 97, 116, 110]⟩, ⟨#[44]⟩, ⟨#[46]⟩, ⟨#[45]⟩, ⟨#[37]⟩, ⟨#[82, 112]⟩],
  [⟨#[106, 97, 45, 74, 80]⟩, ⟨#[194, 164, 35, 44, 35, 35, 48]⟩, ⟨#[108, 97, 116, 110]⟩, ⟨#[46]⟩, ⟨#[44]⟩, ⟨#[45]⟩, ⟨#[37]⟩, ⟨#[239, 191, 165]⟩],
  [⟨#[107, 109, 45, 75, 72]⟩, ⟨#[35, 44, 35, 35, 48, 46, 48, 48, 194, 164]⟩, ⟨#[107, 104, 109, 114]⟩, ⟨#[44]⟩, ⟨#[46]⟩, ⟨#[45]⟩, ⟨#[37]⟩, ⟨#[225, 159, 155]⟩],
  [⟨#[107, 110, 45, 73, 78]⟩, ⟨#[194, 164, 35, 44, 35, 35, 44, 35, 35, 48, 46, 48, 48]⟩, ⟨#[107, 110, 100, 97]⟩, ⟨#[46]⟩, ⟨#[44]⟩, ⟨#[45]⟩, ⟨#[37]⟩, ⟨#[226, 130, 185]⟩],
  [⟨#[107, 111, 45, 75, 82]⟩, ⟨#[194, 164, 35, 44, 35, 35, 48]⟩, ⟨#[108, 97, 116, 110]⟩, ⟨#[46]⟩, ⟨#[44]⟩, ⟨#[45]⟩, ⟨#[37]⟩, ⟨#[226, 130, 169]⟩],
  [⟨#[108, 111, 45, 76, 65]⟩, ⟨#[194, 164, 35, 44, 35, 35, 48, 46, 48, 48, 59, 194, 164, 45, 35, 44, 35, 35, 48, 46, 48, 48]⟩, ⟨#[108, 97, 111, 111]⟩, ⟨#[44]⟩, ⟨#[46]⟩, ⟨#[45]⟩, ⟨#[37]⟩, ⟨#[226, 130, 173]⟩],
  [⟨#[109, 114, 45, 73, 78]⟩, ⟨#[194, 164, 35, 44, 35, 35, 44, 35, 35, 48, 46, 48, 48]⟩, ⟨#[100, 101, 118, 97]⟩, ⟨#[46]⟩, ⟨#[44]⟩, ⟨#[45]⟩, ⟨#[37]⟩, ⟨#[226, 130, 185]⟩],
  [⟨#[109, 121, 45, 77, 77]⟩, ⟨#[35, 44, 35, 35, 48, 46, 48, 48, 194, 160, 194, 164]⟩, ⟨#[109, 121, 109, 114]⟩, ⟨#[46]⟩, ⟨#[44]⟩, ⟨#[45]⟩, ⟨#[37]⟩, ⟨#[75]⟩],
  [⟨#[110, 98, 45, 78, 79]⟩, ⟨#[194, 164, 194, 160, 35, 44, 35, 35, 48, 46, 48, 48, 59, 194, 164, 194, 160, 45, 35, 44, 35, 35, 48, 46, 48, 48]⟩, ⟨#[108, 97, 116, 110]⟩, ⟨#[44]⟩, ⟨#[226, 128, 175]⟩, ⟨#[226, 136, 146]⟩, ⟨#[37]⟩, ⟨#[107, 114]⟩],
  [⟨#[110, 108, 45, 78, 76]⟩, ⟨#[194, 164, 194, 160, 35, 44, 35, 35, 48, 46, 48, 48, 59, 194, 164, 194, 160, 45, 35, 44, 35, 35, 48, 46, 48, 48]⟩, ⟨#[108, 97, 116, 110]⟩, ⟨#[44]⟩, ⟨#[46]⟩, ⟨#[45]⟩, ⟨#[37]⟩, ⟨#[226, 130, 172]⟩],
  [⟨#[112, 108, 45, 80, 76]⟩, ⟨#[35, 44, 35, 35, 48, 46, 48, 48, 194, 160, 194, 164]⟩, ⟨#[108, 97, 116, 110]⟩, ⟨#[44]⟩, ⟨#[226, 128, 175]⟩, ⟨#[45]⟩, ⟨#[37]⟩, ⟨#[122, 197, 130]⟩],
  [⟨#[112, 116, 45, 66, 82]⟩, ⟨#[194, 164, 194, 160, 35, 44, 35, 35, 48, 46, 48, 48]⟩, ⟨#[108, 97, 116, 110]⟩, ⟨#[44]⟩, ⟨#[46]⟩, ⟨#[45]⟩, ⟨#[37]⟩, ⟨#[82, 36]⟩],
  [⟨#[114, 117, 45, 82, 85]⟩, ⟨#[35, 44, 35, 35, 48, 46, 48, 48, 194, 160, 194, 164]⟩, ⟨#[108, 97, 116, 110]⟩, ⟨#[44]⟩, ⟨#[226, 128, 175]⟩, ⟨#[45]⟩, ⟨#[37]⟩, ⟨#[226, 130, 189]⟩],
  [⟨#[115, 108, 45, 83, 73]⟩, ⟨#[35, 44, 35, 35, 48, 46, 35, 35, 37]⟩, ⟨#[108, 97, 116, 110]⟩, ⟨#[44]⟩, ⟨#[46]⟩, ⟨#[226, 136, 146]⟩, ⟨#[37]⟩, ⟨#[]⟩],
  [⟨#[116, 97, 45, 73, 78]⟩, ⟨#[194, 164, 194, 160, 35, 44, 35, 35, 44, 35, 35, 48, 46, 48, 48]⟩, ⟨#[116, 97, 109, 108, 100, 101, 99]⟩, ⟨#[46]⟩, ⟨#[44]⟩, ⟨#[45]⟩, ⟨#[37]⟩, ⟨#[226, 130, 185]⟩],
  [⟨#[116, 104, 45, 84, 72]⟩, ⟨#[194, 164, 35, 44, 35, 35, 48, 46, 48, 48]⟩, ⟨#[116, 104, 97, 105]⟩, ⟨#[46]⟩, ⟨#[44]⟩, ⟨#[45]⟩, ⟨#[37]⟩, ⟨#[224, 184, 191]⟩],
  [⟨#[122, 104, 45, 67, 78]⟩, ⟨#[194, 164, 35, 44, 35, 35, 48, 46, 48, 48]⟩, ⟨#[108, 97, 116, 110]⟩, ⟨#[46]⟩, ⟨#[44]⟩, ⟨#[45]⟩, ⟨#[37]⟩, ⟨#[194, 165]⟩]]
/-- record k -/
def recAt (k : Nat) : List ByteArray := recs.getD k []
/-- its field j -/
def fldAt (k j : Nat) : ByteArray := (recAt k).getD j ⟨#[]⟩
def nameAt (k : Nat) : ByteArray := fldAt k 0
/-- a record as a value -/
def recV (k : Nat) : Value := .agg #[.string (fldAt k 0), .string (fldAt k 1), .string (fldAt k 2), .string (fldAt k 3), .string (fldAt k 4), .string (fldAt k 5), .string (fldAt k 6), .string (fldAt k 7)]
/-- all cells of the forty -/
def cells40 : List Value := recs.flatten.map Value.string
theorem flat_at : ∀ k : Fin 40, ∀ j : Fin 8, recs.flatten[8 * k.1 + j.1]? = some (fldAt k.1 j.1) := by decide +kernel
theorem cells_at {k j : Nat} (hk : k < 40) (hj : j < 8) : cells40[8 * k + j]? = some (.string (fldAt k j)) := by
  unfold cells40
  rw [List.getElem?_map, flat_at ⟨k, hk⟩ ⟨j, hj⟩]; rfl
end Go.Proofs.YthoicieckodneaaGreatDoor.Forty

/- Walks: the forty records. -/
namespace Go.Proofs.YthoicieckodneaaGreatDoor.Forty
open Go.RowKit
set_option linter.unusedVariables false
set_option linter.unusedSimpArgs false

/-- operations in a row that yield a value each, reckoned -/
def stepV (P : Program) : List Oper → Act → World → Option (Act × World)
  | [], a, w => some (a, w)
  | o :: l, a, w => match o.guard with
    | some _ => none
    | none => match (execOp a.eval o).run P w with
      | .ok (.value v) w' => stepV P l (a.put o.dst v) w'
      | .ok .skip w' => stepV P l (a.put o.dst undef) w'
      | _ => none
theorem wpList_stepV {P : Program} {ops : Array Oper} {Q : Exit → Act → World → Prop} : ∀ (l : List Oper) (a : Act) (w : World) (a' : Act) (w' : World), stepV P l a w = some (a', w') → Q .normal a' w' → wpList P ops Q l a w
  | [], a, w, a', w', h, hq => by simp only [stepV, Option.some.injEq, Prod.mk.injEq] at h; rw [wpList, h.1, h.2]; exact hq
  | o :: l, a, w, a', w', h, hq => by
    unfold stepV at h
    cases hg : o.guard with
    | some g => rw [hg] at h; cases h
    | none =>
      rw [hg] at h
      refine wpList_plain hg fun K hK => ?_
      unfold Oper.wp
      dsimp only at h
      split at h
      · rename_i v w1 hr
        rw [hr, Oper.upon_value]
        exact hK _ _ (wpList_stepV l _ _ _ _ h hq)
      · rename_i w1 hr
        rw [hr, Oper.upon_skip]
        exact hK _ _ (wpList_stepV l _ _ _ _ h hq)
      · cases h

theorem cells40_row (w : World) (e : TypeId) : Row (w.alloc (.cells cells40.toArray e)) (some ⟨w.heap.size, 0, none⟩) cells40 := row_new w cells40 e
/-- the slots of a walk that has built the forty -/
def slots40 (v : Value) : Array Value := #[v] ++ ((List.range 40).map recV).toArray ++ #[v]
theorem slots40_0 (v : Value) : (slots40 v)[0]?.getD undef = v := by simp [slots40]
set_option maxHeartbeats 4000000 in
set_option maxRecDepth 1000000 in
theorem ref_records (w : World) : Calls Tryz.prog 135 #[] w fun e w' => ∃ A, e = .returned (.slice A 40 40) ∧ Row w' A cells40 ∧ Ext w w' := by
  go_enter Tryz.func135, Tryz.ntmps135
  go_upto_region 1 with fail
  have hr := cells40_row w 29
  have hx : Ext w (w.alloc (.cells cells40.toArray 29)) := (Below.refl _ _).alloc (Nat.le_refl _) _
  refine wp_region_lit (wpList_stepV _ _ _ ⟨slots40 (.slice (some ⟨w.heap.size, 0, none⟩) 40 40), []⟩ (w.alloc (.cells cells40.toArray 29)) (by kernel_rfl) ?_)
  have HT := slots40_0 (.slice (some ⟨w.heap.size, 0, none⟩) 40 40)
  generalize slots40 (.slice (some ⟨w.heap.size, 0, none⟩) 40 40) = T at *
  generalize w.alloc (.cells cells40.toArray 29) = w1 at *
  go_wp2_with fail
  refine bodyPost_ret (v := .slice (some ⟨w.heap.size, 0, none⟩) 40 40) (by simp [results, Tryz.results135, go_sem, HT]) rfl ?_
  exact ⟨_, rfl, hr, hx⟩
end Go.Proofs.YthoicieckodneaaGreatDoor.Forty

/- Walks: the forty records, the document's side. -/
namespace Go.Proofs.YthoicieckodneaaGreatDoor.Forty
open Go.RowKit Small
set_option linter.unusedVariables false
set_option linter.unusedSimpArgs false

/-- the cells of record k -/
def recL (k : Nat) : List Value := [.string (fldAt k 0), .string (fldAt k 1), .string (fldAt k 2), .string (fldAt k 3), .string (fldAt k 4), .string (fldAt k 5), .string (fldAt k 6), .string (fldAt k 7)]
theorem recV_L (k : Nat) : recV k = .agg (recL k).toArray := rfl
theorem rec_cell {w : World} {b off : Nat} (h : Row w (some ⟨b, off, none⟩) cells40) {k : Nat} (hk : k < 40) {j : Nat} (hj : j < 8) : w.cell? ⟨b, off + k * 8 + j, none⟩ = some (.string (fldAt k j)) := by
  have := h.cell0 (cells_at hk hj)
  rwa [Nat.mul_comm 8 k, ← Nat.add_assoc] at this
theorem recL_at {k j : Nat} {v : Value} (h : (recL k)[j]? = some v) : j < 8 ∧ v = .string (fldAt k j) := by
  have hj : j < 8 := by have := (List.getElem?_eq_some_iff.1 h).1; simpa [recL] using this
  refine ⟨hj, ?_⟩
  match j, hj with
  | 0, _ | 1, _ | 2, _ | 3, _ | 4, _ | 5, _ | 6, _ | 7, _ => simpa [recL] using h.symm
theorem rec_range {w : World} {b off : Nat} (h : Row w (some ⟨b, off, none⟩) cells40) {k : Nat} (hk : k < 40) : w.rangeAt b (off + k * 8) (recL k) := fun j v hv => by
  obtain ⟨hj, rfl⟩ := recL_at hv
  exact rec_cell h hk hj
def zero8 : List Value := [.string ⟨#[]⟩, .string ⟨#[]⟩, .string ⟨#[]⟩, .string ⟨#[]⟩, .string ⟨#[]⟩, .string ⟨#[]⟩, .string ⟨#[]⟩, .string ⟨#[]⟩]
theorem infoR : (Tryz.prog.info? 29).map (·.size) = some 8 := by kernel_rfl
theorem infoL : (Tryz.prog.info? 80).map (·.size) = some 8 := by kernel_rfl
theorem cells40_len : cells40.length = 320 := by decide +kernel
theorem recL_one (k : Nat) : (recL k).toArray.all (·.oneCell') = true := by simp [recL, Value.oneCell']

set_option maxHeartbeats 1000000 in
theorem ref_one (n : Int) (w : World) (h1 : -9223372036854775808 ≤ n) (h2 : n ≤ 9223372036854775807) :
    Calls Tryz.prog 77 #[.int .i64 n] w fun e w' => e = .returned (recV (aroundF n 40).toNat) ∧ Ext w w' := by
  have hb := aroundF_bd n 40 (by omega)
  have HF : Hid (aroundF n 40 = ((aroundF n 40).toNat : Int)) := Lib.hid (by omega)
  have hk : (aroundF n 40).toNat < 40 := by omega
  generalize hkk : (aroundF n 40).toNat = k at *
  clear hkk hb
  have hb0 : Box (w.alloc (.cells zero8.toArray 29)) w.heap.size 29 zero8 := Box.new _ _ _
  have HB0 := Lib.hid hb0
  clear hb0
  go_enter Tryz.func77, Tryz.ntmps77
  go_wp2_with fail
  refine (ref_records _).mono ?_; rintro e w1 ⟨A, rfl, hrow, hx⟩
  go_wp2_with fail
  refine (around _ _ _ h1 h2 (by omega) (by omega)).mono ?_; rintro e w2 ⟨rfl, rfl⟩
  rw [HF.out]
  obtain ⟨b, off, rfl, -⟩ := hrow.at_ (k := 0) (by rw [cells40_len]; omega)
  have HB1 := Lib.hid (HB0.out.ext hx)
  have HX := Lib.hid hx
  have HR := Lib.hid (rec_range hrow hk)
  clear hx hrow HB0
  go_wp2_with (first
    | (refine wpList_load_mid rfl 29 (.tmp 6) rfl b (off + k * 8) rfl (recL k) _ HR.out Tryz.underlying29 rfl infoR ?_)
    | (refine wpList_store_row rfl 29 (.tmp 2) (.tmp 7) rfl w.heap.size (recL k).toArray rfl rfl _ _ HB1.out infoR rfl (recL_one k) ?_))
  have hb2 := HB1.out.set (recL k).toArray
  refine bodyPost_ret (v := recV k) (results_cell_row rfl _ _ w.heap.size _ _ _ _ rfl hb2 Tryz.underlying29 rfl infoR) rfl ⟨rfl, ?_⟩
  exact Ext.setRow (((Below.refl _ _).alloc (Nat.le_refl _) _).trans (HX.out.mono (by simp))) (Nat.le_refl _) _

theorem nameAt_eq (k : Nat) : fldAt k 0 = nameAt k := rfl
/-- where a name stands, -1: nowhere -/
def findZ (s : ByteArray) : Int := idxF (fun k => decide (nameAt k = s)) (List.range 40)
theorem range_get {n k : Nat} (h : k < n) : (List.range n)[k]'(by simpa using h) = k := by simp

/-- what stands ahead of the first '-' -/
def langL (l : List UInt8) : List UInt8 := l.takeWhile (· ≠ 45)
theorem langL_hit {l : List UInt8} {k : Nat} (hk : k < l.length) (h : ∀ x ∈ l.take k, x ≠ 45) (he : l[k] = 45) : langL l = l.take k := by
  have e : l = l.take k ++ l[k] :: l.drop (k + 1) := by rw [← List.drop_eq_getElem_cons, List.take_append_drop]
  have : langL (l.take k ++ l[k] :: l.drop (k + 1)) = l.take k := by
    unfold langL
    rw [List.takeWhile_append_of_pos (fun y hy => by simpa using h y hy), he]
    simp
  rwa [← e] at this
theorem langL_none {l : List UInt8} (h : ∀ x ∈ l, x ≠ 45) : langL l = l := by
  unfold langL
  induction l with
  | nil => rfl
  | cons a l ih => rw [List.takeWhile_cons, if_pos (by simpa using h a (by simp)), ih (fun x hx => h x (by simp [hx]))]
theorem langL_len (l : List UInt8) : (langL l).length ≤ l.length := (List.takeWhile_prefix _).length_le
end Go.Proofs.YthoicieckodneaaGreatDoor.Forty

/- Walks: ranges over the forty: the iterator's contract. -/
namespace Go.Proofs.YthoicieckodneaaGreatDoor.Forty
open Go.RowKit Go.Shelf Small
set_option linter.unusedVariables false
set_option linter.unusedSimpArgs false
attribute [local go_sem] Oper.semAt_some

/-- what a round is handed: the name and the record of number x -/
def encs (x : Nat) : Array Value := #[.string (nameAt x), recV x]
theorem opIn_load_mid {F : Fence} {n : Nat} {P : Program} {op : Oper} {a : Act} {w : World} {K : Act → World → Prop} {Q : Exit → Act → World → Prop} (ty : TypeId) (x : Operand) (ho : op.op = .load ty x)
    (b o : Nat) (hx : a.eval x = .pointer (some ⟨b, o, none⟩)) (cs : List Value) (d : TypeDesc) (hc : w.rangeAt b o cs)
    (hu : P.underlying ty = some d) (hd : d.isRow = true) (hi : (P.info? ty).map (·.size) = some cs.length)
    (h : K (a.put op.dst (.agg cs.toArray)) w) : op.wpIn F n P a w K Q := by
  refine ⟨fun f hf => ?_, ?_⟩
  · simp [Oper.about, ho] at hf
  · rw [Oper.semAt_eq _ _ _ (fun c e => by rw [ho] at e; cases e)]
    simp only [execOp, ho, hx, Instr.loadAt, Instr.sureAddr, Sem.run_bind, Sem.run_pure, Result.andThen_ok, run_loadVar_mid w b o ty cs d hc hu hd hi]
    exact h
theorem wpListIn_load_mid {F : Fence} {n : Nat} {P : Program} {ops : Array Oper} {rest : List Oper} {op : Oper} {a : Act} {w : World} {Q : Exit → Act → World → Prop} (hgd : op.guard = none) (ty : TypeId) (x : Operand) (ho : op.op = .load ty x)
    (b o : Nat) (hx : a.eval x = .pointer (some ⟨b, o, none⟩)) (cs : List Value) (d : TypeDesc) (hc : w.rangeAt b o cs)
    (hu : P.underlying ty = some d) (hd : d.isRow = true) (hi : (P.info? ty).map (·.size) = some cs.length)
    (h : wpListIn F n P ops Q rest (a.put op.dst (.agg cs.toArray)) w) : wpListIn F n P ops Q (op :: rest) a w :=
  wpListIn_plain hgd fun _ hK => opIn_load_mid ty x ho b o hx cs d hc hu hd hi (hK _ _ h)
theorem opIn_store_row {F : Fence} {n : Nat} {P : Program} {o : Oper} {a : Act} {w : World} {K : Act → World → Prop} {Q : Exit → Act → World → Prop} (ty : TypeId) (x y : Operand) (ho : o.op = .store ty x y)
    (g : Nat) (cells : Array Value) (hx : a.eval x = .pointer (some ⟨g, 0, none⟩)) (hy : a.eval y = .agg cells)
    (t : TypeId) (old : Array Value) (hg : w.heap[g]? = some (.cells old t (0, 0))) (hi : (P.info? ty).map (·.size) = some cells.size)
    (hold : old.size = cells.size) (h1 : cells.all (·.oneCell') = true)
    (h : K (a.put o.dst undef) (w.setRow g cells)) : o.wpIn F n P a w K Q := by
  refine ⟨fun f hf => ?_, ?_⟩
  · simp [Oper.about, ho] at hf
  · rw [Oper.semAt_eq _ _ _ (fun c e => by rw [ho] at e; cases e)]
    simp only [execOp, ho, hx, hy, Instr.storeAt, Instr.sureAddr, Sem.run_bind, Sem.run_pure, Result.andThen_ok, run_storeVar_row w g t ty old cells hg hi hold h1]
    exact h
theorem wpListIn_store_row {F : Fence} {n : Nat} {P : Program} {ops : Array Oper} {rest : List Oper} {o : Oper} {a : Act} {w : World} {Q : Exit → Act → World → Prop} (hgd : o.guard = none) (ty : TypeId) (x y : Operand) (ho : o.op = .store ty x y)
    (g : Nat) (cells : Array Value) (hx : a.eval x = .pointer (some ⟨g, 0, none⟩)) (hy : a.eval y = .agg cells)
    (t : TypeId) (old : Array Value) (hg : w.heap[g]? = some (.cells old t (0, 0))) (hi : (P.info? ty).map (·.size) = some cells.size)
    (hold : old.size = cells.size) (h1 : cells.all (·.oneCell') = true)
    (h : wpListIn F n P ops Q rest (a.put o.dst undef) (w.setRow g cells)) : wpListIn F n P ops Q (o :: rest) a w :=
  wpListIn_plain hgd fun _ hK => opIn_store_row ty x y ho g cells hx hy t old hg hi hold h1 (hK _ _ h)
/-- a store into the block that was made last -/
theorem wpListIn_store_new {F : Fence} {n : Nat} {P : Program} {ops : Array Oper} {rest : List Oper} {o : Oper} {a : Act} {w : World} {Q : Exit → Act → World → Prop} (hgd : o.guard = none) (ty : TypeId) (x y : Operand) (ho : o.op = .store ty x y)
    (cells : Array Value) (t : TypeId) (old : Array Value) (hx : a.eval x = .pointer (some ⟨w.heap.size, 0, none⟩)) (hy : a.eval y = .agg cells)
    (hi : (P.info? ty).map (·.size) = some cells.size)
    (hold : old.size = cells.size) (h1 : cells.all (·.oneCell') = true)
    (h : wpListIn F n P ops Q rest (a.put o.dst undef) (w.alloc (.cells cells t))) : wpListIn F n P ops Q (o :: rest) a (w.alloc (.cells old t)) :=
  wpListIn_store_row hgd ty x y ho w.heap.size cells hx hy t old (heap_alloc_new w _) hi hold h1 (by rw [World.setRow_alloc_new]; exact h)

/-- variables that hold records stay -/
def KeepsR (W W' : World) : Prop := ∀ (i : Nat) (cs : Array Value) (fz : Nat × Nat), W.heap[i]? = some (Obj.cells cs 80 fz) → W'.heap[i]? = some (Obj.cells cs 80 fz)
theorem KeepsR.refl (W : World) : KeepsR W W := fun _ _ _ h => h
theorem KeepsR.trans {A B C : World} (h : KeepsR A B) (k : KeepsR B C) : KeepsR A C := fun i cs fz hi => k i cs fz (h i cs fz hi)
theorem KeepsR.box {W W' : World} {g : Nat} {cs : List Value} (h : KeepsR W W') (hb : Box W g 80 cs) : Box W' g 80 cs := h g _ _ hb



end Go.Proofs.YthoicieckodneaaGreatDoor.Forty

/- Walks: the names of the forty. -/
namespace Go.Proofs.YthoicieckodneaaGreatDoor.Forty
open Go.RowKit Go.Shelf Small
set_option linter.unusedVariables false
set_option linter.unusedSimpArgs false
attribute [local go_sem] Oper.semAt_some

theorem KeepsR.grown {W W' : World} {row : Option Nat} (hg : W.grownBy W' row) (h : ∀ (r : Nat) (cs : Array Value) (fz : Nat × Nat), row = some r → W.heap[r]? ≠ some (Obj.cells cs 80 fz)) : KeepsR W W' := fun i cs fz hi => by
  have hlt : i < W.heap.size := (Array.getElem?_eq_some_iff.1 hi).1
  exact (hg.block i hlt (fun e => h i cs fz e.symm hi)).trans hi
theorem KeepsR.alloc (W : World) (o : Obj) : KeepsR W (W.alloc o) := .grown (World.grownBy_alloc W o none) (fun r cs fz e => by cases e)
theorem KeepsR.setCell {W : World} {B : Nat} {cs : Array Value} {t : TypeId} {fz : Nat × Nat} (h : W.heap[B]? = some (Obj.cells cs t fz)) (ht : t ≠ 80) (j : Nat) (v : Value) : KeepsR W (W.setCell ⟨B, j, none⟩ v) := fun i cs' fz' hi => by
  by_cases e : i = B
  · subst e; rw [h] at hi; injection hi with hi; injection hi with _ h2 _; exact absurd h2 ht
  · exact (heap_setCell_other W _ i v e).trans hi
theorem KeepsR.putObj {w : World} (W : World) (l : Nat) (o o' : Obj) (_ : w.heap.size ≤ l) (h : W.heap[l]? = some o) (hc : o.isCells = false) (_ : o.isWalk = false) : KeepsR W (W.putObj l o') := fun i cs fz hi => by
  by_cases e : i = l
  · subst e; rw [h] at hi; injection hi with hi; subst hi; cases hc
  · exact (World.putObj_heap_other e).trans hi
theorem own_type {w : World} {base e sz n : Nat} {v : Value} {cs : List Value} (h : w.ownsRow base e sz v n cs) (he : e ≠ 80) (r : Nat) (ds : Array Value) (fz : Nat × Nat) (hr : v.ownBlock = some r) : w.heap[r]? ≠ some (Obj.cells ds 80 fz) := by
  intro hc
  rcases h.2 with ⟨hv, _⟩ | ⟨g, cap, cur, hv, _, hg, _⟩
  · rw [hv] at hr; simp [Value.ownBlock] at hr
  · rw [hv] at hr
    simp [Value.ownBlock] at hr
    subst hr
    rw [hg] at hc
    injection hc with hc
    injection hc with _ h2 _
    exact he h2

def namesV (pre : List Nat) : List Value := pre.map fun k => Value.string (nameAt k)
theorem namesV_snoc (pre : List Nat) (x : Nat) : namesV (pre ++ [x]) = namesV pre ++ [.string (nameAt x)] := by simp [namesV]
theorem namesV_len (pre : List Nat) : (namesV pre).length = pre.length := by simp [namesV]
theorem info9 : (Tryz.prog.info? 9).map (fun i => (i.zero, i.size, i.bytes)) = some (some (.string ⟨#[]⟩), 1, 16) := by kernel_rfl

end Go.Proofs.YthoicieckodneaaGreatDoor.Forty

/- Walks: the record of a name. -/
namespace Go.Proofs.YthoicieckodneaaGreatDoor.Forty
open Go.RowKit Go.Shelf Small
set_option linter.unusedVariables false
set_option linter.unusedSimpArgs false
attribute [local go_sem] Oper.semAt_some

theorem Box.kept {W W' : World} {row : Option Nat} {g : Nat} {T : TypeId} {cs : List Value} (h : Box W g T cs) (hg : W.grownBy W' row) (hne : some g ≠ row) : Box W' g T cs := (hg.block g h.lt hne).trans h
theorem box_own {β : Type} (B g : Nat) (T : TypeId) (cs : List Value) : OwnFrom (β := β) B (fun _ W => Box W g T cs) := fun s W W' row h hg hr => by
  refine Box.kept h hg fun e => ?_
  obtain ⟨_, o, ho, hc⟩ := hr g e.symm
  have h : W.heap[g]? = _ := h
  rw [h] at ho; injection ho with ho; subst ho; cases hc
theorem boxed_box {W : World} {g : Nat} {T : TypeId} {v : Value} : Boxed W g T v ↔ Box W g T [v] := Iff.rfl
theorem results_rec2 {fn : Func} (h : fn.results = #[.cell 2 80, .cell 3 119]) (tmps : Array Value) (w : World) (g k : Nat) (cs : List Value) (v : Value)
    (h2 : tmps.getD 2 undef = .pointer (some ⟨g, 0, none⟩)) (h3 : tmps.getD 3 undef = .pointer (some ⟨k, 0, none⟩)) (hb : Box w g 80 cs) (hl : cs.length = 8) (hk : Box w k 119 [v]) :
    (results fn tmps).run Tryz.prog w = .ok (.tuple #[.agg cs.toArray, v]) w := by
  have h2' : tmps[2]?.getD undef = .pointer (some ⟨g, 0, none⟩) := by simpa using h2
  have h3' : tmps[3]?.getD undef = .pointer (some ⟨k, 0, none⟩) := by simpa using h3
  have e1 := run_loadVar_row (P := Tryz.prog) w g _ 80 cs.toArray (0, 0) _ hb Tryz.underlying80 rfl (by rw [infoL]; simp [hl])
  have hc := hk.cell (j := 0) rfl
  have e2 : (loadVar 119 ⟨k, 0, none⟩).run Tryz.prog w = .ok v w := by simp [go_sem, hc]
  simp [results, h, h2', h3', asAddr, e1, e2]

theorem Box.putObj {W : World} {g : Nat} {T : TypeId} {cs : List Value} (h : Box W g T cs) (D : Nat) (o : Obj) (hne : g ≠ D) : Box (W.putObj D o) g T cs := (World.putObj_heap_other hne).trans h
theorem Box.others {W W' : World} (h : KeepsOthers W W') {D : Nat} {o : Obj} (hd : W.heap[D]? = some o) (ho : o.isCells = false) : W'.heap[D]? = some o := h.same D _ hd ho
theorem others_setRow {W : World} {g : Nat} {T : TypeId} {cs : List Value} (h : Box W g T cs) (ds : Array Value) : KeepsOthers W (W.setRow g ds) := ⟨by simp, fun i o hi ho => by
  by_cases e : i = g
  · subst e; rw [show W.heap[i]? = _ from h] at hi; injection hi with hi; subst hi; cases ho
  · exact (setRow_other W _ i _ e).trans hi⟩

theorem zero8_one : zero8.toArray.all (·.oneCell') = true := by simp [zero8, Value.oneCell']

/-- the record of a name, and its error -/
def recR (s : ByteArray) : List Value := if 0 ≤ findZ s then recL (findZ s).toNat else zero8
def recE (s : ByteArray) : Int := if 0 ≤ findZ s then 0 else 7
theorem findZ_hit (s : ByteArray) (k : Nat) (hk : k < 40) (h : ∀ j ∈ List.range k, nameAt j ≠ s) (he : nameAt k = s) : findZ s = k := by
  have e : (List.range 40).take k = List.range k := by rw [List.take_range]; congr 1; omega
  refine idxF_at _ _ k (by simpa using hk) ?_ (by simp [he])
  rw [e, List.any_eq_false]
  intro x hx
  simpa using h x hx
theorem findZ_miss (s : ByteArray) (h : ∀ j ∈ List.range 40, nameAt j ≠ s) : findZ s = -1 := by
  refine idxF_none _ _ ?_
  rw [List.any_eq_false]
  intro x hx
  simpa using h x hx

end Go.Proofs.YthoicieckodneaaGreatDoor.Forty

/- Walks: the name that is nearest to a tag. -/
namespace Go.Proofs.YthoicieckodneaaGreatDoor.Forty
open Go.RowKit Go.Shelf Small Strs
set_option linter.unusedVariables false
set_option linter.unusedSimpArgs false

theorem cut_lang (l : List UInt8) : (cutL 45 l).1 = langL l := by
  unfold cutL
  split
  · rename_i h
    obtain ⟨h1, h2⟩ := Lib.indexByte_some (o := (Lib.indexByte l 45).toNat) (l := l) (c := 45) (by omega)
    obtain ⟨hl, he⟩ := List.getElem?_eq_some_iff.1 h1
    refine (langL_hit hl (fun x hx => ?_) he).symm
    obtain ⟨i, hi, rfl⟩ := List.mem_take_iff_getElem.1 hx
    intro e
    refine h2 i (by omega) ?_
    rw [List.getElem?_eq_getElem (by omega), e]
  · rename_i h
    refine (langL_none fun x hx e => ?_).symm
    have h1 := Lib.indexByte_none (l := l) (c := 45) (by have := Lib.indexByte_ge l 45; omega)
    obtain ⟨i, hi, rfl⟩ := List.mem_iff_getElem.1 hx
    exact h1 i (by rw [List.getElem?_eq_getElem hi, e])

theorem name_size (k : Nat) : (nameAt k).size ≤ 5 := by
  by_cases h : k < 40
  · have : ∀ k : Fin 40, (nameAt k.1).size ≤ 5 := by decide +kernel
    exact this ⟨k, h⟩
  · have : nameAt k = ⟨#[]⟩ := by
      unfold nameAt fldAt recAt
      have hl : recs.length = 40 := rfl
      have hz : recs.getD k [] = [] := by rw [List.getD_eq_getElem?_getD, List.getElem?_eq_none (by omega)]; rfl
      rw [hz]; rfl
    rw [this]; decide
/-- which of the forty has the language of a tag, -1: none -/
def sameL (s : ByteArray) (k : Nat) : Bool := decide (langL (nameAt k).data.toList = langL s.data.toList)
def langZ (s : ByteArray) : Int := idxF (sameL s) (List.range 40)
/-- the name that is nearest -/
def matchB (s : ByteArray) : ByteArray := if 0 ≤ findZ s then s else if 0 ≤ langZ s then nameAt (langZ s).toNat else ⟨#[]⟩
def matchE (s : ByteArray) : Int := if 0 ≤ findZ s then 0 else if 0 ≤ langZ s then 0 else 7
theorem sameL_beq (s : ByteArray) (k : Nat) : (langL (nameAt k).data.toList == langL s.data.toList) = sameL s k := by
  rw [Bool.eq_iff_iff]; simp [sameL]

end Go.Proofs.YthoicieckodneaaGreatDoor.Forty

/- Walk: forty.Match. -/
namespace Go.Proofs.YthoicieckodneaaGreatDoor.Forty
open Go.RowKit Go.Shelf Small Strs
set_option linter.unusedVariables false
set_option linter.unusedSimpArgs false
attribute [local go_sem] Oper.semAt_some

theorem results_two {fn : Func} (h : fn.results = #[.cell 2 9, .cell 3 119]) (tmps : Array Value) (w : World) (g k : Nat) (u v : Value)
    (h2 : tmps.getD 2 undef = .pointer (some ⟨g, 0, none⟩)) (h3 : tmps.getD 3 undef = .pointer (some ⟨k, 0, none⟩)) (hb : Box w g 9 [u]) (hk : Box w k 119 [v]) :
    (results fn tmps).run Tryz.prog w = .ok (.tuple #[u, v]) w := by
  have h2' : tmps[2]?.getD undef = .pointer (some ⟨g, 0, none⟩) := by simpa using h2
  have h3' : tmps[3]?.getD undef = .pointer (some ⟨k, 0, none⟩) := by simpa using h3
  have hb' := hb.cell (j := 0) rfl
  have hc := hk.cell (j := 0) rfl
  have e1 : (loadVar 9 ⟨g, 0, none⟩).run Tryz.prog w = .ok u w := by simp [go_sem, hb']
  have e2 : (loadVar 119 ⟨k, 0, none⟩).run Tryz.prog w = .ok v w := by simp [go_sem, hc]
  simp [results, h, h2', h3', asAddr, e1, e2]
theorem langZ_hit (s : ByteArray) (k : Nat) (hk : k < 40) (h : ∀ j ∈ List.range k, sameL s j = false) (he : sameL s k = true) : langZ s = k := by
  have e : (List.range 40).take k = List.range k := by rw [List.take_range]; congr 1; omega
  refine idxF_at _ _ k (by simpa using hk) ?_ (by simp [he])
  rw [e, List.any_eq_false]
  intro x hx
  simp [h x hx]
theorem langZ_miss (s : ByteArray) (h : ∀ j ∈ List.range 40, sameL s j = false) : langZ s = -1 := by
  refine idxF_none _ _ ?_
  rw [List.any_eq_false]
  intro x hx
  simp [h x hx]
theorem others_ext {W W' : World} (h : Ext W W') : KeepsOthers W W' := ⟨h.size, fun i o hi _ => (h.block i (Array.getElem?_eq_some_iff.1 hi).1).trans hi⟩
theorem keepsR_ext {W W' : World} (h : Ext W W') : KeepsR W W' := fun i cs fz hi => (h.block i (Array.getElem?_eq_some_iff.1 hi).1).trans hi
theorem recR_len (s : ByteArray) : (recR s).length = 8 := by unfold recR; split <;> rfl
theorem recR_one (s : ByteArray) : (recR s).toArray.all (·.oneCell') = true := by unfold recR; split; exact recL_one _; exact zero8_one
theorem recR_info (s : ByteArray) : (Tryz.prog.info? 80).map (·.size) = some (recR s).toArray.size := by rw [infoL]; simp [recR_len]

end Go.Proofs.YthoicieckodneaaGreatDoor.Forty

/- A region that draws its order, whose operations read and whose callees hand back values that do not hang on the world (they may make memory), and a tail in a forced order: walked once. Our own laws, over the library's theory of quiet regions. -/
namespace Go.Proofs.YthoicieckodneaaGreatDoor
open Go Go.RowKit
set_option linter.unusedVariables false
set_option linter.unusedSimpArgs false

section
variable {P : Program} {ops : Array Oper} {C : World → Prop}
/-- all but the tail, in whatever order -/
def HeadQ (P : Program) (ops : Array Oper) (C : World → Prop) (n : Nat) (L : Array Bool → Act → Prop) : Nat → Array Bool → Act → Prop
  | 0, ls, a => L ls a
  | f + 1, ls, a => Region.ready .any ops ls ≠ [] ∧ ∀ i ∈ Region.ready .any ops ls, i < n ∧ qOp P ops C i (HeadQ P ops C n L f (ls.setIfInBounds i true)) a
theorem headQ_any {n g : Nat} {L : Array Bool → Act → Prop} {Q' : Exit → Act → World → Prop} (hL : ∀ ls a w, C w → L ls a → wpAny P .any ops Q' g ls a w) :
    ∀ (f : Nat) (ls : Array Bool) (a : Act) (w : World), C w → HeadQ P ops C n L f ls a → wpAny P .any ops Q' (f + g) ls a w
  | 0, ls, a, w, hw, h => by rw [Nat.zero_add]; exact hL _ _ _ hw h
  | f + 1, ls, a, w, hw, h => by
    rw [show f + 1 + g = (f + g) + 1 by omega]
    exact ⟨fun h0 => absurd h0 h.1, fun i hi => wpOp_of_qOp hw (fun a' w' hw' h' => headQ_any hL f _ a' w' hw' h') (h.2 i hi).2⟩
theorem headQ_first {n i : Nat} {oi : Oper} {v : Value} {L : Array Bool → Act → Prop} (hi : ops[i]? = some oi) (hsel : ∀ (j : Nat) (o : Oper) cs b, ops[j]? = some o → o.op ≠ .select cs b)
    (hs : Region.sinkB .any ops n = true) (hc : Region.chainB .any ops n = true) (hn : n < ops.size) (hin : i < n)
    (hdone : ∀ ls a, L ls a → ∀ j ∈ Region.ready .any ops ls, n ≤ j) :
    ∀ (f : Nat) (ls : Array Bool) (a : Act), HeadInv .any ops n ls →
      (∀ j oj, ops[j]? = some oj → j ≠ i → ls.getD j true = false → (∀ e ∈ oj.after, Region.binds .any e = true → e.on ≠ i) → oi.apart ops oj = true) →
      i ∈ Region.ready .any ops ls → YieldsIn P ops C oi v a →
      HeadQ P ops C n L f (ls.setIfInBounds i true) (a.put oi.dst v) → HeadQ P ops C n L (f + 1) ls a := by
  intro f
  induction f with
  | zero =>
    intro ls a inv _ hr hy H
    have hun := (mem_ready.1 hr).1
    refine ⟨fun h => (by rw [h] at hr; cases hr), fun j hj => ?_⟩
    have hjn : j < n := Nat.lt_of_not_le fun h => tail_waits hs hc hn inv _ i rfl hin hun j h hj
    refine ⟨hjn, ?_⟩
    by_cases hji : j = i
    · subst hji; exact hy.qOp hi H
    · exact absurd (hdone _ _ H j (ready_mono hj hji)) (by omega)
  | succ f ih =>
    intro ls a inv hfree hr hy H
    have hun := (mem_ready.1 hr).1
    refine ⟨fun h => (by rw [h] at hr; cases hr), fun j hj => ?_⟩
    have hjn : j < n := Nat.lt_of_not_le fun h => tail_waits hs hc hn inv _ i rfl hin hun j h hj
    refine ⟨hjn, ?_⟩
    by_cases hji : j = i
    · subst hji; exact hy.qOp hi H
    · obtain ⟨hjun, oj, hoj, hall⟩ := mem_ready.1 hj
      have hnot : ∀ e ∈ oj.after, Region.binds .any e = true → e.on ≠ i := fun e he hb heq => by
        have h1 := hall e he hb
        rw [heq, getD_both hun] at h1
        cases h1
      have h2 := qOp_put hoj (hfree j oj hoj hji hjun hnot) (fun cs b => hsel i oi cs b hi) (fun cs b => hsel j oj cs b hoj) hy (H.2 j (ready_mono hj hji)).2
      refine qOp_mono (fun a' h3 => ih (ls.setIfInBounds j true) a' (inv.set hj hjn) (fun k ok hk hki hku hno => ?_) (ready_mono hr (Ne.symm hji)) h3.1 ?_) h2
      · refine hfree k ok hk hki ?_ hno
        by_cases hjk : j = k
        · subst hjk; exact hjun
        · rwa [getD_set_ne true hjk] at hku
      · rw [Array.setIfInBounds_comm _ _ hji]; exact h3.2
theorem headQ_lex {n g : Nat} {Lq : Act → Prop} (hsel : Region.noSelect ops = true) (hs : Region.sinkB .any ops n = true) (hc : Region.chainB .any ops n = true) (hn : n < ops.size) :
    ∀ (l : List Oper) (k : Nat) (ls : Array Bool) (a : Act), (∀ j, j < l.length → l[j]? = ops[k + j]?) → k + l.length = n → HeadInv .any ops n ls →
    Region.lexHead .any ops g l.length k ls = true → wpQuiet P ops C Lq l a →
    HeadQ P ops C n (fun ls' a' => Region.seqB .any ops g n ls' = true ∧ Lq a') l.length ls a
  | [], k, ls, a, _, hk, _, hB, h => by
    have : k = n := by simpa using hk
    subst this
    exact ⟨by simpa [Region.lexHead] using hB, h⟩
  | o :: l, k, ls, a, hl, hk, inv, hB, h => by
    have h0 : ops[k]? = some o := by simpa using (hl 0 (by simp)).symm
    simp only [List.length_cons, Region.lexHead, Bool.and_eq_true] at hB
    obtain ⟨⟨hr, hf⟩, hB'⟩ := hB
    have hkn : k < n := by simp only [List.length_cons] at hk; omega
    have hr' : k ∈ Region.ready .any ops ls := by simpa using hr
    have hst : qOp P ops C k (wpQuiet P ops C Lq l) a := by unfold qOp; simp only [h0]; exact h
    obtain ⟨v, hy, hK⟩ := yieldsIn_of_qOp h0 hst
    exact headQ_first h0 (Region.noSelect_spec hsel) hs hc hn hkn (fun ls' a' hL => seqB_ready hL.1) l.length ls a inv (Region.free_spec h0 hf) hr' hy
      (headQ_lex hsel hs hc hn l (k + 1) _ _ (fun j hj => by have := hl (j + 1) (by simp; omega); simpa [Nat.add_assoc, Nat.add_comm 1 j] using this) (by simp only [List.length_cons] at hk; omega) (inv.set hr' hkn) hB' hK)
theorem region_tailC {id : Nat} {Q : Exit → Act → World → Prop} {a : Act} {w : World} {l : List Oper} (n : Nat) (hm : P.follows .mixedOrders = true) (hB : Region.lexTailB .any l.toArray n = true) (hC : C { w with drawn := w.drawn + 1 })
    (h : wpQuiet P l.toArray C (fun a' => ∀ w', C w' → wpList P l.toArray Q (l.drop n) a' w') (l.take n) a) : (Code.region id l.toArray true).wp P Q a w := by
  simp only [Region.lexTailB, Bool.and_eq_true, decide_eq_true_eq] at hB
  obtain ⟨⟨⟨⟨hsel, hn⟩, hs⟩, hc⟩, hlex⟩ := hB
  have hn' : n < l.length := by simpa using hn
  have htl : (l.take n).length = n := by simp; omega
  have hdl : (l.drop n).length = l.toArray.size - n := by simp
  have inv0 : HeadInv .any l.toArray n (Array.replicate l.toArray.size false) :=
    ⟨by simp, fun j oj _ hl => (by rw [getD_replicate_false] at hl; cases hl), fun t _ ht => getD_in (by simpa using ht) (getD_replicate_false _ _)⟩
  have H := headQ_lex (g := l.toArray.size - n) hsel hs hc hn (l.take n) 0 _ a (fun j hj => by
    have hj' : j < n := by rw [htl] at hj; exact hj
    simp [hj']) (by simpa using htl) inv0 (by rw [htl]; exact hlex) h
  refine wp_region_any hm ?_
  have := headQ_any (Q' := Q) (g := l.toArray.size - n) (fun ls a' w' hw' hL => by
    have := wpAny_of_seq (md := .any) (Q' := Q) (l.drop n) n ls a' w' (fun j => by simp [List.getElem?_drop]) (by rw [hdl]; exact hL.1) (hL.2 w' hw')
    rwa [hdl] at this) _ _ _ _ hC H
  rw [htl, show n + (l.toArray.size - n) = l.toArray.size by omega] at this
  exact this
end

/-- a world in which nothing of w0 has turned -/
structure ExtW (w0 : World) where
  w : World
  h : Below w0.heap.size w0 w
instance (w0 : World) : Nonempty (ExtW w0) := ⟨⟨w0, Below.refl _ _⟩⟩
theorem ext_of {P : Program} {f : FuncId} {args : Array Value} {w0 : World} {x : ExtW w0} {v : Value} (h : Calls P f args x.w fun e w' => e = .returned v ∧ Below x.w.heap.size x.w w') : Calls P f args x.w fun e w'' => e = .returned v ∧ ∃ y : ExtW w0, w'' = y.w :=
  h.mono fun _ w'' ⟨he, hx⟩ => ⟨he, ⟨w'', x.h.trans (hx.mono x.h.size)⟩, rfl⟩
theorem ext_same {P : Program} {f : FuncId} {args : Array Value} {w0 : World} {x : ExtW w0} {v : Value} (h : Calls P f args x.w fun e w' => e = .returned v ∧ x.w = w') : Calls P f args x.w fun e w'' => e = .returned v ∧ ∃ y : ExtW w0, w'' = y.w :=
  h.mono fun _ w'' ⟨he, hx⟩ => ⟨he, x, hx.symm⟩
theorem ExtW.cell {w0 : World} {b off : Nat} {v : Value} (h : w0.cell? ⟨b, off, none⟩ = some v) (x : ExtW w0) : x.w.cell? ⟨b, off, none⟩ = some v := Ext.cell_ x.h h
/-- such a region, without a tail -/
theorem region_ext {P : Program} {id : Nat} {Q : Exit → Act → World → Prop} {a : Act} {w : World} {l : List Oper} (hm : P.follows .mixedOrders = true) (hB : Region.lexB .any l.toArray = true)
    (h : wpQuiet P l.toArray (fun w' => ∃ x : ExtW w, w' = x.w) (fun a' => ∀ w', (∃ x : ExtW w, w' = x.w) → Q .normal a' w') l a) : (Code.region id l.toArray true).wp P Q a w :=
  wp_region_quiet (C := fun w' => ∃ x : ExtW w, w' = x.w) hm hB ⟨⟨_, (Below.refl _ _).drew⟩, rfl⟩ (by simpa using h)
/-- .. with a tail: the operations from number n on -/
theorem region_ext_tail {P : Program} {id : Nat} {Q : Exit → Act → World → Prop} {a : Act} {w : World} {l : List Oper} (n : Nat) (hm : P.follows .mixedOrders = true) (hB : Region.lexTailB .any l.toArray n = true)
    (h : wpQuiet P l.toArray (fun w' => ∃ x : ExtW w, w' = x.w) (fun a' => ∀ w', (∃ x : ExtW w, w' = x.w) → wpList P l.toArray Q (l.drop n) a' w') (l.take n) a) : (Code.region id l.toArray true).wp P Q a w :=
  region_tailC (C := fun w' => ∃ x : ExtW w, w' = x.w) n hm hB ⟨⟨_, (Below.refl _ _).drew⟩, rfl⟩ h
end Go.Proofs.YthoicieckodneaaGreatDoor

/- Walks: the laws of the forty: FortyMatches. -/
namespace Go.Proofs.YthoicieckodneaaGreatDoor.Forty
open Go.RowKit Small Strs
set_option linter.unusedVariables false
set_option linter.unusedSimpArgs false

theorem tname_at {w : World} {A : Option Addr} {xs : List ByteArray} (h : Row w A (xs.map Value.string)) {k : Nat} (hk : k < xs.length) :
    ∃ b off, A = some ⟨b, off, none⟩ ∧ w.cell? ⟨b, off + k, none⟩ = some (.string xs[k]) := by
  obtain ⟨b, off, e, hc⟩ := h.at_ (k := k) (by simpa using hk)
  exact ⟨b, off, e, hc k _ (by simp [hk])⟩


theorem name_ne (k : Nat) (h : k < 40) : (nameAt k).size = 5 := by
  have : ∀ k : Fin 40, (nameAt k.1).size = 5 := by decide +kernel
  exact this ⟨k, h⟩
theorem idxF_lt {α : Type} (p : α → Bool) (xs : List α) (h : 0 ≤ idxF p xs) : ∃ k : Nat, ∃ hk : k < xs.length, idxF p xs = k ∧ p xs[k] = true := by
  unfold idxF at *
  cases hf : xs.findIdx? p with
  | none => rw [hf] at h; simp at h
  | some i =>
    rw [List.findIdx?_eq_some_iff_getElem] at hf
    obtain ⟨hi, hp, _⟩ := hf
    exact ⟨i, hi, rfl, hp⟩
theorem matchE_form (s : ByteArray) : (matchE s = 0 ∧ 1 ≤ (matchB s).size) ∨ (matchE s = 7 ∧ matchB s = ⟨#[]⟩) := by
  unfold matchE matchB
  by_cases h : 0 ≤ findZ s
  · rw [if_pos h, if_pos h]
    obtain ⟨k, hk, _, hp⟩ := idxF_lt _ _ h
    rw [List.getElem_range, decide_eq_true_iff] at hp
    refine .inl ⟨rfl, ?_⟩
    rw [← hp, name_ne k (by simpa using hk)]; decide
  · rw [if_neg h, if_neg h]
    by_cases h2 : 0 ≤ langZ s
    · rw [if_pos h2, if_pos h2]
      obtain ⟨k, hk, e, hp⟩ := idxF_lt _ _ h2
      refine .inl ⟨rfl, ?_⟩
      rw [show langZ s = k from e, Int.toNat_natCast, name_ne k (by simpa using hk)]; decide
    · rw [if_neg h2, if_neg h2]; exact .inr ⟨rfl, rfl⟩

end Go.Proofs.YthoicieckodneaaGreatDoor.Forty

/- The forty names are distinct; where a name stands. -/
namespace Go.Proofs.YthoicieckodneaaGreatDoor.Forty
open Go.RowKit Small
set_option linter.unusedVariables false
set_option linter.unusedSimpArgs false

theorem names_distinct : ∀ i j : Fin 40, nameAt i.1 = nameAt j.1 → i = j := by decide +kernel
theorem findZ_name (k : Nat) (hk : k < 40) : findZ (nameAt k) = k := by
  refine findZ_hit _ k hk (fun j hj e => ?_) rfl
  have hjk : j < k := by simpa using hj
  have := names_distinct ⟨j, by omega⟩ ⟨k, hk⟩ e
  have : j = k := congrArg Fin.val this
  omega
theorem findZ_lt (s : ByteArray) : findZ s < 40 := by
  unfold findZ idxF
  cases h : (List.range 40).findIdx? (fun k => decide (nameAt k = s)) with
  | none => simp
  | some i =>
    have := (List.findIdx?_eq_some_iff_getElem.1 h).1
    simp at this ⊢; omega
end Go.Proofs.YthoicieckodneaaGreatDoor.Forty
