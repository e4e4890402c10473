/- Moves of a drawn region, typed by hand: the load of a row of cells. -/
import Derived.Test.YtdkjkbbibdppoaaGreatDoorJLocB
import Derived.Deep.MidRow
namespace Go.Proofs.YtdkjkbbibdppoaaGreatDoor.Loc
open Go.RowKit

theorem takeRow_ {P : Program} {l : List Oper} {Q : Exit → Act → World → Prop} {md : Region.Mode} {S : World → Prop} {oi : Oper} {fuel : Nat} {listed : Array Bool} {a : Act} {w : World}
    (i : Nat) (hi : l[i]? = some oi) (hs : Region.noSelect l.toArray = true) (hf : Region.free md l.toArray listed i = true) (hr : (Region.ready md l.toArray listed).contains i = true)
    {cs : List Value} (hQ : ∀ c a w, Q (.panic c) (a.put oi.dst (.agg cs.toArray)) w → Q (.panic c) a w) (hS : S w) (hw : Region.wanted oi (yielded l.toArray a.tmps) = true)
    (ty : TypeId) (x : Operand) (ho : oi.op = .load ty x) (b o : Nat) (hx : a.eval x = .pointer (some ⟨b, o, none⟩)) (d : TypeDesc) (hc : ∀ w, S w → w.rangeAt b o cs)
    (hu : P.underlying ty = some d) (hd : d.isRow = true) (hz : (P.info? ty).map (·.size) = some cs.length)
    (h : wpAnyH P md l.toArray Q S fuel (listed.setIfInBounds i true) (a.put oi.dst (.agg cs.toArray)) w) : wpAnyH P md l.toArray Q S (fuel + 1) listed a w :=
  wpAnyH_take (i := i) (by rw [List.getElem?_toArray]; exact hi) hs hf hr hQ (yieldsIf_load_mid hw ty x ho b o hx cs d hc hu hd hz) hS h
theorem Ext.range_ {w w' : World} (h : Ext w w') {b o : Nat} {cs : List Value} (hc : w.rangeAt b o cs) : w'.rangeAt b o cs := fun j v hv => Ext.cell_ h (hc j v hv)
end Go.Proofs.YtdkjkbbibdppoaaGreatDoor.Loc
