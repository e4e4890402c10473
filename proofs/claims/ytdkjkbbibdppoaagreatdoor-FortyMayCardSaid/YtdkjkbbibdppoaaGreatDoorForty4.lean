/- Walks: the names of the forty. -/
import Derived.Test.YtdkjkbbibdppoaaGreatDoorForty3
namespace Go.Proofs.YtdkjkbbibdppoaaGreatDoor.Forty
open Go.RowKit Go.Shelf Small
set_option linter.unusedVariables false
set_option linter.unusedSimpArgs false
attribute [local go_sem] Oper.semAt_some

theorem KeepsR.grown {W W' : World} {row : Option Nat} (hg : W.grownBy W' row) (h : ∀ (r : Nat) (cs : Array Value) (fz : Nat × Nat), row = some r → W.heap[r]? ≠ some (Obj.cells cs 52 fz)) : KeepsR W W' := fun i cs fz hi => by
  have hlt : i < W.heap.size := (Array.getElem?_eq_some_iff.1 hi).1
  exact (hg.block i hlt (fun e => h i cs fz e.symm hi)).trans hi
theorem KeepsR.alloc (W : World) (o : Obj) : KeepsR W (W.alloc o) := .grown (World.grownBy_alloc W o none) (fun r cs fz e => by cases e)
theorem KeepsR.setCell {W : World} {B : Nat} {cs : Array Value} {t : TypeId} {fz : Nat × Nat} (h : W.heap[B]? = some (Obj.cells cs t fz)) (ht : t ≠ 52) (j : Nat) (v : Value) : KeepsR W (W.setCell ⟨B, j, none⟩ v) := fun i cs' fz' hi => by
  by_cases e : i = B
  · subst e; rw [h] at hi; injection hi with hi; injection hi with _ h2 _; exact absurd h2 ht
  · exact (heap_setCell_other W _ i v e).trans hi
theorem KeepsR.putObj {w : World} (W : World) (l : Nat) (o o' : Obj) (_ : w.heap.size ≤ l) (h : W.heap[l]? = some o) (hc : o.isCells = false) (_ : o.isWalk = false) : KeepsR W (W.putObj l o') := fun i cs fz hi => by
  by_cases e : i = l
  · subst e; rw [h] at hi; injection hi with hi; subst hi; cases hc
  · exact (World.putObj_heap_other e).trans hi
theorem own_type {w : World} {base e sz n : Nat} {v : Value} {cs : List Value} (h : w.ownsRow base e sz v n cs) (he : e ≠ 52) (r : Nat) (ds : Array Value) (fz : Nat × Nat) (hr : v.ownBlock = some r) : w.heap[r]? ≠ some (Obj.cells ds 52 fz) := by
  intro hc
  rcases h.2 with ⟨hv, _⟩ | ⟨g, cap, cur, hv, _, hg, _⟩
  · rw [hv] at hr; simp [Value.ownBlock] at hr
  · rw [hv] at hr
    simp [Value.ownBlock] at hr
    subst hr
    rw [hg] at hc
    injection hc with hc
    injection hc with _ h2 _
    exact he h2

def namesV (pre : List Nat) : List Value := pre.map fun k => Value.string (nameAt k)
theorem namesV_snoc (pre : List Nat) (x : Nat) : namesV (pre ++ [x]) = namesV pre ++ [.string (nameAt x)] := by simp [namesV]
theorem namesV_len (pre : List Nat) : (namesV pre).length = pre.length := by simp [namesV]
theorem info9 : (Tryz.prog.info? 9).map (fun i => (i.zero, i.size, i.bytes)) = some (some (.string ⟨#[]⟩), 1, 16) := by kernel_rfl

end Go.Proofs.YtdkjkbbibdppoaaGreatDoor.Forty
