/- Walks: ranges over the forty: the iterator's contract. -/
import Derived.RangeFuncNested
import Derived.RangeFuncBound
import Derived.RangeFuncCalls
import Derived.RangeFuncLeaves
import Derived.RangeFuncBox
import Derived.Shelf.Abstract
import Derived.Shelf.RegionOpen
import Derived.WalkKit
import Derived.OwnWalkIn
import Derived.TacticsInMore
import Derived.LoopNIn
import Derived.LoopIn
import Derived.Maps.AppendAt
import Derived.Deep.WholeRow
import Derived.Test.YtdkjkbbibdppoaaGreatDoorForty2
namespace Go.Proofs.YtdkjkbbibdppoaaGreatDoor.Forty
open Go.RowKit Go.Shelf Small
set_option linter.unusedVariables false
set_option linter.unusedSimpArgs false
attribute [local go_sem] Oper.semAt_some

/-- what a round is handed: the name and the record of number x -/
def encs (x : Nat) : Array Value := #[.string (nameAt x), recV x]
theorem opIn_load_mid {F : Fence} {n : Nat} {P : Program} {op : Oper} {a : Act} {w : World} {K : Act → World → Prop} {Q : Exit → Act → World → Prop} (ty : TypeId) (x : Operand) (ho : op.op = .load ty x)
    (b o : Nat) (hx : a.eval x = .pointer (some ⟨b, o, none⟩)) (cs : List Value) (d : TypeDesc) (hc : w.rangeAt b o cs)
    (hu : P.underlying ty = some d) (hd : d.isRow = true) (hi : (P.info? ty).map (·.size) = some cs.length)
    (h : K (a.put op.dst (.agg cs.toArray)) w) : op.wpIn F n P a w K Q := by
  refine ⟨fun f hf => ?_, ?_⟩
  · simp [Oper.about, ho] at hf
  · rw [Oper.semAt_eq _ _ _ (fun c e => by rw [ho] at e; cases e)]
    simp only [execOp, ho, hx, Instr.loadAt, Instr.sureAddr, Sem.run_bind, Sem.run_pure, Result.andThen_ok, run_loadVar_mid w b o ty cs d hc hu hd hi]
    exact h
theorem wpListIn_load_mid {F : Fence} {n : Nat} {P : Program} {ops : Array Oper} {rest : List Oper} {op : Oper} {a : Act} {w : World} {Q : Exit → Act → World → Prop} (hgd : op.guard = none) (ty : TypeId) (x : Operand) (ho : op.op = .load ty x)
    (b o : Nat) (hx : a.eval x = .pointer (some ⟨b, o, none⟩)) (cs : List Value) (d : TypeDesc) (hc : w.rangeAt b o cs)
    (hu : P.underlying ty = some d) (hd : d.isRow = true) (hi : (P.info? ty).map (·.size) = some cs.length)
    (h : wpListIn F n P ops Q rest (a.put op.dst (.agg cs.toArray)) w) : wpListIn F n P ops Q (op :: rest) a w :=
  wpListIn_plain hgd fun _ hK => opIn_load_mid ty x ho b o hx cs d hc hu hd hi (hK _ _ h)
theorem opIn_store_row {F : Fence} {n : Nat} {P : Program} {o : Oper} {a : Act} {w : World} {K : Act → World → Prop} {Q : Exit → Act → World → Prop} (ty : TypeId) (x y : Operand) (ho : o.op = .store ty x y)
    (g : Nat) (cells : Array Value) (hx : a.eval x = .pointer (some ⟨g, 0, none⟩)) (hy : a.eval y = .agg cells)
    (t : TypeId) (old : Array Value) (hg : w.heap[g]? = some (.cells old t (0, 0))) (hi : (P.info? ty).map (·.size) = some cells.size)
    (hold : old.size = cells.size) (h1 : cells.all (·.oneCell') = true)
    (h : K (a.put o.dst undef) (w.setRow g cells)) : o.wpIn F n P a w K Q := by
  refine ⟨fun f hf => ?_, ?_⟩
  · simp [Oper.about, ho] at hf
  · rw [Oper.semAt_eq _ _ _ (fun c e => by rw [ho] at e; cases e)]
    simp only [execOp, ho, hx, hy, Instr.storeAt, Instr.sureAddr, Sem.run_bind, Sem.run_pure, Result.andThen_ok, run_storeVar_row w g t ty old cells hg hi hold h1]
    exact h
theorem wpListIn_store_row {F : Fence} {n : Nat} {P : Program} {ops : Array Oper} {rest : List Oper} {o : Oper} {a : Act} {w : World} {Q : Exit → Act → World → Prop} (hgd : o.guard = none) (ty : TypeId) (x y : Operand) (ho : o.op = .store ty x y)
    (g : Nat) (cells : Array Value) (hx : a.eval x = .pointer (some ⟨g, 0, none⟩)) (hy : a.eval y = .agg cells)
    (t : TypeId) (old : Array Value) (hg : w.heap[g]? = some (.cells old t (0, 0))) (hi : (P.info? ty).map (·.size) = some cells.size)
    (hold : old.size = cells.size) (h1 : cells.all (·.oneCell') = true)
    (h : wpListIn F n P ops Q rest (a.put o.dst undef) (w.setRow g cells)) : wpListIn F n P ops Q (o :: rest) a w :=
  wpListIn_plain hgd fun _ hK => opIn_store_row ty x y ho g cells hx hy t old hg hi hold h1 (hK _ _ h)
/-- a store into the block that was made last -/
theorem wpListIn_store_new {F : Fence} {n : Nat} {P : Program} {ops : Array Oper} {rest : List Oper} {o : Oper} {a : Act} {w : World} {Q : Exit → Act → World → Prop} (hgd : o.guard = none) (ty : TypeId) (x y : Operand) (ho : o.op = .store ty x y)
    (cells : Array Value) (t : TypeId) (old : Array Value) (hx : a.eval x = .pointer (some ⟨w.heap.size, 0, none⟩)) (hy : a.eval y = .agg cells)
    (hi : (P.info? ty).map (·.size) = some cells.size)
    (hold : old.size = cells.size) (h1 : cells.all (·.oneCell') = true)
    (h : wpListIn F n P ops Q rest (a.put o.dst undef) (w.alloc (.cells cells t))) : wpListIn F n P ops Q (o :: rest) a (w.alloc (.cells old t)) :=
  wpListIn_store_row hgd ty x y ho w.heap.size cells hx hy t old (heap_alloc_new w _) hi hold h1 (by rw [World.setRow_alloc_new]; exact h)

/-- variables that hold records stay -/
def KeepsR (W W' : World) : Prop := ∀ (i : Nat) (cs : Array Value) (fz : Nat × Nat), W.heap[i]? = some (Obj.cells cs 52 fz) → W'.heap[i]? = some (Obj.cells cs 52 fz)
theorem KeepsR.refl (W : World) : KeepsR W W := fun _ _ _ h => h
theorem KeepsR.trans {A B C : World} (h : KeepsR A B) (k : KeepsR B C) : KeepsR A C := fun i cs fz hi => k i cs fz (h i cs fz hi)
theorem KeepsR.box {W W' : World} {g : Nat} {cs : List Value} (h : KeepsR W W') (hb : Box W g 52 cs) : Box W' g 52 cs := h g _ _ hb

set_option maxRecDepth 100000 in
set_option maxHeartbeats 2000000 in
theorem all1_in (n : Nat) (hn : 1 ≤ n) (l : Nat) (J Jx : List Nat → World → Prop) (W : World)
    (hJ : AbidesFrom W.heap.size J)
    (hY : ∀ pre x W, J pre W → pre.length < 40 → YieldAt Fence.wide (n - 1) Tryz.prog l (encs x) W fun e W' =>
      (e = .returned (.bool true) ∧ J (pre ++ [x]) W' ∧ KeepsR W W') ∨ (e = .returned (.bool false) ∧ Jx (pre ++ [x]) W'))
    (h0 : J [] W) :
    CallsIn Fence.wide n Tryz.prog 142 #[.func (.yield l) #[] #[]] W fun e W' => (∃ v, e = .returned v) ∧
      ((∃ ys, ys = List.range 40 ∧ J ys W') ∨ (∃ pre, (∃ k, k ≤ 40 ∧ pre = List.range k) ∧ Jx pre W')) := by
  have hal : ∀ (pre : List Nat) (w : World) (o : Obj), J pre w → J pre (w.alloc o) := fun pre w o h => hJ pre w _ none h (World.grownBy_alloc w o none) (fun r e => by cases e)
  have HAL := Lib.hid hal
  have HY := Lib.hid hY
  have H0 := Lib.hid (hal [] W (.cells cells40.toArray 52) h0)
  have HB := Lib.hid (Box.new W 52 cells40)
  clear hal hY h0 hJ
  refine callsIn_of_wp Tryz.func142 rfl trivial ?_ rfl
  simp only [Tryz.ntmps142, List.size_toArray, List.length_cons, List.length_nil, Nat.reduceAdd, Nat.reduceSub, Array.replicate_succ, Array.replicate_zero, List.push_toArray, List.append_toArray, List.nil_append, List.cons_append]
  gi_wp2
  refine ⟨trivial, ?_⟩
  gi_at_call 143
  refine (callsIn_wide.2 (forty_records _)).mono ?_
  rintro e w' ⟨rfl, rfl⟩
  generalize W.alloc (.cells cells40.toArray 52) = W1 at *
  generalize W.heap.size = g at *
  gi_wp2
  gi_loopw [6] (fun i wr => ∃ k : Nat, k ≤ 40 ∧ i = .int .i64 k ∧ Hid (J (List.range k) wr) ∧ Hid (Box wr g 52 cells40))
    (fun i _ => 40 - (intOf i).toNat)
  case atStart => exact ⟨0, Nat.zero_le _, rfl, H0, HB⟩
  case round =>
    obtain ⟨k, hk, rfl, hJs, hb⟩ := hrel
    by_cases hlt : k < 40
    · have hr := Lib.hid (rec_range hb.out.row hlt)
      have c0 : (recL k)[0]? = some (.string (nameAt k)) := rfl
      obtain ⟨fn, tmps, assign, body, hy, hR⟩ := HY.out (List.range k) k (wr.alloc (.cells (recL k).toArray 52)) (HAL.out _ _ _ hJs.out) (by simpa using hlt)
      unfold encs at hy
      rw [recV_L] at hy
      have hbn := Lib.hid (Box.new wr 52 (recL k)).range
      have HS : Hid (List.range (k + 1) = List.range k ++ [k]) := Lib.hid List.range_succ
      have i1 : (k : Int) < 40 := by omega
      have HB2 : Hid (Box (wr.alloc (.cells (recL k).toArray 52)) g 52 cells40) := Lib.hid (hb.out.alloc _)
      gi_wp2_with (first
        | (refine wpListIn_load_mid rfl 52 (.tmp 8) rfl g (0 + k * 8) (by simp [Act.eval]) (recL k) _ hr.out Tryz.underlying52 rfl infoL ?_)
        | (refine wpListIn_load_mid rfl 52 (.tmp 3) rfl wr.heap.size 0 rfl (recL k) _ hbn.out Tryz.underlying52 rfl infoL ?_)
        | (refine wpListIn_store_new rfl 52 (.tmp 3) (.tmp 9) rfl (recL k).toArray 52 _ rfl rfl infoL rfl (recL_one k) ?_))
      trace "a"
      refine hR.mono ?_
      rintro e W3 (⟨rfl, hJ3, hk3⟩ | ⟨rfl, hJx3⟩)
      · have HJ3 := Lib.hid hJ3
        have HK3 := Lib.hid hk3
        clear hJ3 hk3
        gi_wp2
        go_roundw
        case rel => exact ⟨k + 1, by omega, by go_num, Lib.hid (by rw [HS.out]; exact HJ3.out), Lib.hid (HK3.out.box HB2.out)⟩
        case measure => simp [intOf]; omega
      · gi_wp2
        refine bodyPost_ret (results_none rfl _ _ _) rfl ?_
        exact ⟨⟨_, rfl⟩, .inr ⟨_, ⟨k + 1, by omega, rfl⟩, by rw [HS.out]; exact hJx3⟩⟩
    · have e : k = 40 := by omega
      subst e
      gi_wp2
      go_end0
      exact ⟨⟨_, rfl⟩, .inl ⟨_, rfl, hJs.out⟩⟩

theorem all_stops (n : Nat) (hn : 1 ≤ n) (w : World) :
    SeqStopsK Fence.wide n Tryz.prog 142 #[] encs KeepsR (fun ys => ys = List.range 40) (fun pre => ∃ k, k ≤ 40 ∧ pre = List.range k) 40 w := fun l J Jx W hW hJ _ hY h0 =>
  all1_in n hn l J Jx W hJ hY h0

/-- the iterator's value -/
theorem forty_all (w : World) : Calls Tryz.prog 91 #[] w fun e w' => e = .returned (.func (.func 142) #[] #[]) ∧ w = w' := by
  go_enter Tryz.func91, Tryz.ntmps91
  go_wp2
  go_ret
  exact ⟨rfl, rfl⟩
end Go.Proofs.YtdkjkbbibdppoaaGreatDoor.Forty
