/- Words for variables of several cells: a block known whole; a row of cells behind an address; loads and stores of a struct. -/
import Derived.Test.YtdkjkbbibdppoaaGreatDoorAcc
import Derived.Deep.MidRow
import Derived.Laws.CopyOwn
namespace Go.Proofs.YtdkjkbbibdppoaaGreatDoor
open Go.RowKit
set_option linter.unusedVariables false
set_option linter.unusedSimpArgs false

/-- Block g holds the cells cs, none frozen. -/
def Box (w : World) (g : Nat) (T : TypeId) (cs : List Value) : Prop := w.heap[g]? = some (.cells cs.toArray T (0, 0))
section
variable {w w' : World} {g : Nat} {T : TypeId} {cs : List Value}
theorem Box.lt (h : Box w g T cs) : g < w.heap.size := (Array.getElem?_eq_some_iff.1 h).1
theorem Box.new (w : World) (T : TypeId) (cs : List Value) : Box (w.alloc (.cells cs.toArray T)) w.heap.size T cs := heap_alloc_new w _
theorem Box.cell {j : Nat} {v : Value} (h : Box w g T cs) (hv : cs[j]? = some v) : w.cell? ⟨g, j, none⟩ = some v := by
  rw [cell_of_row w g j _ T (0, 0) h]; simpa using hv
theorem Box.frozen (h : Box w g T cs) (j : Nat) : w.frozen? ⟨g, j, none⟩ = false := frozen_of_row w g j _ T h
theorem Box.below {B : Nat} (h : Box w g T cs) (hb : Below B w w') (hg : g < B) : Box w' g T cs := (hb.block g hg).trans h
theorem Box.ext (h : Box w g T cs) (hx : Ext w w') : Box w' g T cs := h.below hx h.lt
theorem Box.set (h : Box w g T cs) (ds : Array Value) : Box (w.setRow g ds) g T ds.toList := by
  unfold Box; rw [Array.toArray_toList]; exact setRow_heap w g _ ds T (0, 0) h
theorem Box.other {k : Nat} (h : Box w g T cs) (hne : g ≠ k) (ds : Array Value) : Box (w.setRow k ds) g T cs := (setRow_other w k g ds hne).trans h
theorem Box.alloc (h : Box w g T cs) (o : Obj) : Box (w.alloc o) g T cs := (heap_alloc_old w o h.lt).trans h
theorem Box.drew (h : Box w g T cs) : Box w.drew g T cs := h
theorem Box.row (h : Box w g T cs) : Row w (some ⟨g, 0, none⟩) cs := .inr ⟨g, 0, rfl, fun j v hv => by rw [Nat.zero_add]; exact h.cell hv⟩
theorem Box.range (h : Box w g T cs) : w.rangeAt g 0 cs := fun j v hv => by rw [Nat.zero_add]; exact h.cell hv
theorem Box.setCell1 (h : Box w g T cs) (k : Nat) (v : Value) (hk : k ≠ g) (j : Nat) : Box (w.setCell ⟨k, j, none⟩ v) g T cs := (heap_setCell_other w _ g v (fun e => hk e.symm)).trans h
theorem Box.setCell (h : Box w g T cs) (j : Nat) (v : Value) : Box (w.setCell ⟨g, j, none⟩ v) g T (cs.set j v) := by
  unfold Box
  rw [heap_setCell_same w g j _ T v h]
  simp
theorem Ext.setRow {w0 : World} (h : Ext w0 w) (hg : w0.heap.size ≤ g) (ds : Array Value) : Ext w0 (w.setRow g ds) := below_setRow h hg ds
theorem Ext.alloc_ {w0 : World} (h : Ext w0 w) (o : Obj) : Ext w0 (w.alloc o) := Below.alloc h h.size o
theorem Ext.setCell_ {w0 : World} (h : Ext w0 w) (hg : w0.heap.size ≤ g) (j : Nat) (v : Value) : Ext w0 (w.setCell ⟨g, j, none⟩ v) := Below.setCell h (p := ⟨g, j, none⟩) hg v
theorem Ext.drew_ {w0 : World} (h : Ext w0 w) : Ext w0 w.drew := Below.drew h
theorem Row.range {b off n : Nat} (h : Row w (some ⟨b, off, none⟩) cs) (k : Nat) : w.rangeAt b (off + k) ((cs.drop k).take n) := fun j v hv => by
  rw [Nat.add_assoc]
  refine h.cell0 ?_
  rw [List.getElem?_take] at hv
  split at hv
  · rw [List.getElem?_drop] at hv; exact hv
  · cases hv
end
end Go.Proofs.YtdkjkbbibdppoaaGreatDoor
