/- Walk: view.New. -/
import Derived.Test.YthoicieckodneaaGreatDoorItW4
import Derived.Test.YthoicieckodneaaGreatDoorItW3
import Derived.Test.YthoicieckodneaaGreatDoorLBegin
import Derived.Test.YthoicieckodneaaGreatDoorItP5
import Derived.Test.YthoicieckodneaaGreatDoorJIt
namespace Go.Proofs.YthoicieckodneaaGreatDoor.Loc
open Go.RowKit Utf All Small Strs Build EncC Pat Cls Dec Go.Proofs.YthoicieckodneaaGreatDoor.Sys
set_option linter.unusedVariables false
set_option linter.unusedSimpArgs false

/-- a locale of both sides, its numbers small -/
structure Knd (r : Rec) (p : Pt) : Prop where
  both : Both r p
  num : 0 ≤ p.num.prim ∧ p.num.prim ≤ 100 ∧ 0 ≤ p.num.sec ∧ p.num.sec ≤ 100
theorem Kin.knd {r : Rec} {p : Pt} (h : Kin r p) : Knd r p := ⟨h.both, h.num⟩
def natsV (S : List Nat) : List Value := S.map fun (n : Nat) => Value.int .i64 (n : Int)
/-- a view's block -/
structure VwR (w : World) (vb : Nat) (E : Option Addr) (cE : Nat) (F : Option Addr) (cF : Nat) (L : List It) (S : List Nat) : Prop where
  box : Box w vb 112 [.slice E L.length cE, .string ⟨(textI L).toArray⟩, .slice F S.length cF]
  items : Row w E (itsV L)
  stops : Row w F (natsV S)
theorem VwR.ext {w w' : World} {vb : Nat} {E : Option Addr} {cE : Nat} {F : Option Addr} {cF : Nat} {L : List It} {S : List Nat} (h : VwR w vb E cE F cF L S) (hx : Ext w w') : VwR w' vb E cE F cF L S := ⟨h.box.ext hx, h.items.below hx (Nat.le_refl _), h.stops.below hx (Nat.le_refl _)⟩
theorem acc_box_ne {e sz : Nat} {w0 w : World} {A : Option Addr} {c n : Nat} {cs : List Value} (h : Acc e sz w0 w A c n cs) {b : Nat} {T : TypeId} {ds : List Value} (hb : Box w b T ds) (hT : T ≠ e) : some b ≠ Value.ownBlock (.slice A n c) := by
  rcases h.own.2 with ⟨hv, _⟩ | ⟨g, cap, cur, hv, _, hg, _⟩
  · rw [hv]; simp [Value.ownBlock]
  · rw [hv]
    intro e1
    simp only [Value.ownBlock, Option.some.injEq] at e1
    subst e1
    unfold Box at hb
    rw [hg] at hb
    injection hb with hb
    injection hb with _ h2 _
    exact hT h2.symm
theorem setCell_grown (w : World) (b j : Nat) (v : Value) : w.grownBy (w.setCell ⟨b, j, none⟩ v) (some b) := ⟨rfl, rfl, rfl, by simp [World.setCell], fun k _ hk => Below.heap_setCell _ _ _ _ (fun e => hk (by simp [e]))⟩
theorem stopA_len (L : List It) (a : Nat) : ∀ k, (stopsTo L a k).length ≤ 2 * k
  | 0 => by simp [stopsTo]
  | k + 1 => by
    have ih := stopA_len L a k
    rw [stopsTo_succ, List.length_append]
    have : (stopA L a k).length ≤ 2 := by
      unfold stopA stopB
      rw [List.length_append]
      split <;> split <;> simp
    omega
/-- own numbers, and a view's block that holds them -/
structure Hold (w0 w : World) (vb : Nat) (E : Option Addr) (N cE : Nat) (TX : List UInt8) (F : Option Addr) (cF : Nat) (S : List Nat) : Prop where
  box : Box w vb 112 [.slice E N cE, .string ⟨TX.toArray⟩, .slice F S.length cF]
  acc : Acc 3 1 w0 w F cF S.length (natsV S)
  le : w0.heap.size ≤ vb
theorem Hold.step {w0 w w' : World} {vb : Nat} {E : Option Addr} {N cE : Nat} {TX : List UInt8} {F : Option Addr} {cF : Nat} {S : List Nat} (h : Hold w0 w vb E N cE TX F cF S) (hx : Ext w w') : Hold w0 w' vb E N cE TX F cF S := ⟨h.box.ext hx, h.acc.step hx, h.le⟩
theorem Hold.put {w0 wr w' : World} {vb : Nat} {E : Option Addr} {N cE : Nat} {TX : List UInt8} {F A' : Option Addr} {cF c' : Nat} {S : List Nat} {v : Nat} (h : Hold w0 wr vb E N cE TX F cF S) (hA : Acc 3 1 w0 w' A' c' (S.length + 1) (natsV S ++ [.int .i64 (v : Int)])) (hg : wr.grownBy w' (Value.ownBlock (.slice F S.length cF))) :
    Hold w0 (w'.setCell ⟨vb, 2, none⟩ (.slice A' (S.length + 1) c')) vb E N cE TX A' c' (S ++ [v]) := by
  have hb : Box w' vb 112 [.slice E N cE, .string ⟨TX.toArray⟩, .slice F S.length cF] := grown_obj hg h.box (acc_box_ne h.acc h.box (by decide))
  have hl : (S ++ [v]).length = S.length + 1 := by simp
  have hn : natsV (S ++ [v]) = natsV S ++ [.int .i64 (v : Int)] := by unfold natsV; rw [List.map_append]; rfl
  refine ⟨?_, ?_, h.le⟩
  · rw [hl]; exact hb.setCell 2 _
  · rw [hl, hn]
    exact Acc.turn hA (setCell_grown w' vb 2 _) (acc_box_ne hA hb (by decide)) h.le
theorem Hold.cell2 {w0 w : World} {vb : Nat} {E : Option Addr} {N cE : Nat} {TX : List UInt8} {F : Option Addr} {cF : Nat} {S : List Nat} (h : Hold w0 w vb E N cE TX F cF S) : w.cell? ⟨vb, 0, none⟩ = some (.slice E N cE) ∧ w.cell? ⟨vb, 2, none⟩ = some (.slice F S.length cF) ∧ w.frozen? ⟨vb, 2, none⟩ = false := ⟨h.box.cell (j := 0) rfl, h.box.cell (j := 2) rfl, h.box.frozen 2⟩
theorem Hold.grown {w0 wr w' : World} {vb : Nat} {E : Option Addr} {N cE : Nat} {TX : List UInt8} {F : Option Addr} {cF : Nat} {S : List Nat} (h : Hold w0 wr vb E N cE TX F cF S) (hg : wr.grownBy w' (Value.ownBlock (.slice F S.length cF))) : w'.cell? ⟨vb, 2, none⟩ = some (.slice F S.length cF) ∧ w'.frozen? ⟨vb, 2, none⟩ = false := by
  have hb : Box w' vb 112 [.slice E N cE, .string ⟨TX.toArray⟩, .slice F S.length cF] := grown_obj hg h.box (acc_box_ne h.acc h.box (by decide))
  exact ⟨hb.cell (j := 2) rfl, hb.frozen 2⟩
/-- its block is B or behind it -/
def FrA (B : Nat) (X : Option Addr) : Prop := ∀ a : Addr, X = some a → B ≤ a.block
theorem row_keep {B : Nat} {w w' : World} {X : Option Addr} {cs : List Value} (h : Row w X cs) (hf : FrA B X) (hw : ∀ k off, B ≤ k → w'.cell? ⟨k, off, none⟩ = w.cell? ⟨k, off, none⟩) : Row w' X cs := by
  rcases h with h | ⟨b, off, rfl, hc⟩
  · exact .inl h
  · exact .inr ⟨b, off, rfl, fun j v hv => (hw b (off + j) (hf ⟨b, off, none⟩ rfl)).trans (hc j v hv)⟩
theorem cell_setRow {w : World} {b k off : Nat} {ds : Array Value} (h : k ≠ b) : (w.setRow b ds).cell? ⟨k, off, none⟩ = w.cell? ⟨k, off, none⟩ := World.cell?_of_block (setRow_other w b k ds h)
/-- a view, its blocks B or behind -/
structure VwF (B : Nat) (W : World) (vb : Nat) (E : Option Addr) (cE : Nat) (F : Option Addr) (cF : Nat) (L : List It) (S : List Nat) : Prop where
  vw : VwR W vb E cE F cF L S
  b : B ≤ vb
  e : FrA B E
  f : FrA B F
theorem VwF.set {B : Nat} {W : World} {vb : Nat} {E : Option Addr} {cE : Nat} {F : Option Addr} {cF : Nat} {L : List It} {S : List Nat} (h : VwF B W vb E cE F cF L S) {k : Nat} (hk : k < B) (ds : Array Value) : VwF B (W.setRow k ds) vb E cE F cF L S :=
  ⟨⟨h.vw.box.other (by have := h.b; omega) _, row_keep h.vw.items h.e fun j off hj => cell_setRow (by omega), row_keep h.vw.stops h.f fun j off hj => cell_setRow (by omega)⟩, h.b, h.e, h.f⟩
theorem VwF.weaken {B B' : Nat} {W : World} {vb : Nat} {E : Option Addr} {cE : Nat} {F : Option Addr} {cF : Nat} {L : List It} {S : List Nat} (h : VwF B W vb E cE F cF L S) (hB : B' ≤ B) : VwF B' W vb E cE F cF L S :=
  ⟨h.vw, Nat.le_trans hB h.b, fun a ha => Nat.le_trans hB (h.e a ha), fun a ha => Nat.le_trans hB (h.f a ha)⟩
theorem VwF.ext {B : Nat} {W W' : World} {vb : Nat} {E : Option Addr} {cE : Nat} {F : Option Addr} {cF : Nat} {L : List It} {S : List Nat} (h : VwF B W vb E cE F cF L S) (hx : Ext W W') : VwF B W' vb E cE F cF L S := ⟨h.vw.ext hx, h.b, h.e, h.f⟩
end Go.Proofs.YthoicieckodneaaGreatDoor.Loc
