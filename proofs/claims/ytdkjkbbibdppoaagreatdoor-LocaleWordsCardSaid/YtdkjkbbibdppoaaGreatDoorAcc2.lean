/- More laws for appends. -/
import Derived.Test.YtdkjkbbibdppoaaGreatDoorAcc
namespace Go.Proofs.YtdkjkbbibdppoaaGreatDoor
open Go.RowKit
set_option linter.unusedVariables false
set_option linter.unusedSimpArgs false

/-- .. behind a draw -/
theorem step_app_drew {T e sz byt : Nat} (E : EI T e sz byt) {ops : Array Oper} {o : Oper} {a : Act} {K' : Act → World → Prop} {Q : Exit → Act → World → Prop} {X : Prop} (hgd : o.guard = none) (s x : Operand)
    (ho : o.op = .call { callee := .builtin .append, args := #[s, x], argTypes := #[T, T] })
    (w0 wr : World) (A : Option Addr) (c n : Nat) (cs : List Value) (hs : a.eval s = .slice A n c) (hacc : Acc e sz w0 wr A c n cs)
    (news : List Value) (m m' N : Nat) (hx : a.eval x = .slice (some ⟨N, 0, none⟩) m m') (hN : N = wr.heap.size) (hm : news.length = m * sz) (h1 : ∀ u ∈ news, u.oneCell' = true)
    (hb : (n + m) * byt ≤ 140737488355328) (hl : n + m ≤ maxLen)
    (K : ∀ A' c' w', Acc e sz w0 w' A' c' (n + m) (cs ++ news) → (∀ e2 sz2, ∀ B : Option Addr, ∀ cB nB csB, Acc e2 sz2 w0 wr B cB nB csB → Apart A B → Acc e2 sz2 w0 w' B cB nB csB ∧ Apart A' B) → wr.grownBy w' (Value.ownBlock (.slice A n c)) →
      K' (a.put o.dst (.slice A' (n + m) c')) w') : if Region.wanted o (yielded ops a.tmps) = true then o.wp Tryz.prog a (wr.alloc (.cells news.toArray e)).drew K' Q else X := by
  subst hN
  have hd : (wr.alloc (.cells news.toArray e)).drew = wr.drew.alloc (.cells news.toArray e) := rfl
  rw [hd]
  exact step_app E hgd s x ho w0 wr.drew A c n cs hs hacc.drew news m m' hx hm h1 hb hl fun A' c' w' h2 h3 h4 => K A' c' w' h2 (fun e2 sz2 B cB nB csB hB hap => h3 e2 sz2 B cB nB csB hB.drew hap) ⟨h4.os, h4.tape, h4.output, h4.size, h4.block⟩
end Go.Proofs.YtdkjkbbibdppoaaGreatDoor
