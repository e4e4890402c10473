/- A slice of the call's own that grows by append, as one word for a loop's relation. -/
import Derived.Test.YtdkjkbbibdppoaaGreatDoorBase
import Derived.Maps.AppendAt
namespace Go.Proofs.YtdkjkbbibdppoaaGreatDoor
open Go.RowKit
set_option linter.unusedVariables false
set_option linter.unusedSimpArgs false

/-- T is the type of slices of e; an element has sz cells and takes by bytes. -/
structure EI (T e sz byt : Nat) : Prop where
  ht : Tryz.prog.underlying T = some (.slice e)
  hi : ∃ i z, Tryz.prog.info? e = some i ∧ i.zero = some z ∧ i.size = sz ∧ i.bytes = byt ∧ z.cells.size = sz
  pos : 0 < sz

theorem ei_of {T e sz byt : Nat} {z : Value} (ht : Tryz.prog.underlying T = some (.slice e)) (h : (Tryz.prog.info? e).map (fun i => (i.zero, i.size, i.bytes)) = some (some z, sz, byt)) (hz : z.cells.size = sz) (hp : 0 < sz) : EI T e sz byt := by
  refine ⟨ht, ?_, hp⟩
  cases hi : Tryz.prog.info? e with
  | none => rw [hi] at h; cases h
  | some i =>
    rw [hi] at h
    simp only [Option.map_some, Option.some.injEq, Prod.mk.injEq] at h
    exact ⟨i, z, rfl, h.1, h.2.1, h.2.2, hz⟩

theorem ei_int : EI 22 3 1 8 := ei_of (z := .int .i64 0) Tryz.underlying22 (by kernel_rfl) rfl (by decide)
theorem ei_str : EI 70 9 1 16 := ei_of (z := .string ⟨#[]⟩) Tryz.underlying70 (by kernel_rfl) rfl (by decide)

/-- The slice (A, n, c) is the call's own: its cells are cs; nothing that was in w0 has turned. -/
structure Acc (e sz : Nat) (w0 w : World) (A : Option Addr) (c n : Nat) (cs : List Value) : Prop where
  own : w.ownsRow w0.heap.size e sz (.slice A n c) n cs
  ext : Below w0.heap.size w0 w

section
variable {e sz : Nat} {w0 w w' : World} {A : Option Addr} {c n : Nat} {cs : List Value}
theorem Acc.start (e sz : Nat) (w : World) : Acc e sz w w none 0 0 [] := ⟨World.ownsRow_nil _ _ _ _, Below.refl _ _⟩
theorem Acc.start_of (e sz : Nat) (h : Ext w0 w) : Acc e sz w0 w none 0 0 [] := ⟨World.ownsRow_nil _ _ _ _, h⟩
theorem Acc.row (h : Acc e sz w0 w A c n cs) : Row w A cs := Row.of_own h.own
theorem grown_of_ext (h : Ext w w') (row : Option Nat) : w.grownBy w' row := ⟨h.os, h.tape, h.output, h.size, fun i hi _ => h.block i hi⟩
theorem Acc.step (h : Acc e sz w0 w A c n cs) (hx : Ext w w') : Acc e sz w0 w' A c n cs := by
  refine ⟨h.own.kept (grown_of_ext hx none) ?_, h.ext.trans (hx.mono h.ext.size)⟩
  cases A with
  | none => exact .inl rfl
  | some a => exact .inr (by simp [Value.ownBlock])
theorem Acc.alloc (h : Acc e sz w0 w A c n cs) (o : Obj) : Acc e sz w0 (w.alloc o) A c n cs := h.step ((Below.refl _ _).alloc (Nat.le_refl _) o)
theorem Acc.drew (h : Acc e sz w0 w A c n cs) : Acc e sz w0 w.drew A c n cs := h.step (Below.refl _ _).drew
theorem Acc.len (h : Acc e sz w0 w A c n cs) : cs.length = n * sz := h.own.1
theorem Acc.cap (h : Acc e sz w0 w A c n cs) : n ≤ c ∧ c ≤ maxLen := by
  rcases h.own.2 with ⟨hv, hn⟩ | ⟨g, cap, cur, hv, _, _, h1, h2, _⟩
  · injection hv with _ _ hc; subst hn; subst hc; exact ⟨Nat.le_refl _, Nat.zero_le _⟩
  · injection hv with _ _ hc; subst hc; exact ⟨h1, h2⟩
theorem Acc.keep (h : Acc e sz w0 w A c n cs) {B : Option Addr} {ds : List Value} (hr : Row w0 B ds) : Row w B ds := hr.below h.ext (Nat.le_refl _)
/-- a world that was there before w0 -/
theorem Acc.ext_of (h : Acc e sz w0 w A c n cs) {v : World} (hx : Ext v w0) : Ext v w := hx.trans (h.ext)
end

theorem own_form {w : World} {base e sz n : Nat} {v : Value} {cs : List Value} (h : w.ownsRow base e sz v n cs) : ∃ A c, v = .slice A n c := by
  rcases h.2 with ⟨hv, hn⟩ | ⟨g, cap, cur, hv, _⟩
  · exact ⟨none, 0, by rw [hv, hn]⟩
  · exact ⟨_, _, hv⟩

theorem Acc.ne_obj {e sz : Nat} {w0 w : World} {A : Option Addr} {c n : Nat} {cs : List Value} (h : Acc e sz w0 w A c n cs) {r : Nat} {o : Obj} (hr : w.heap[r]? = some o) (ho : ∀ cs t f, o ≠ .cells cs t f) : some r ≠ Value.ownBlock (.slice A n c) := by
  intro he
  rcases h.own.2 with ⟨hv, _⟩ | ⟨g, cap, cur, hv, _, hg, _⟩
  · rw [hv] at he; simp [Value.ownBlock] at he
  · rw [hv] at he
    simp [Value.ownBlock] at he
    subst he
    rw [hr] at hg
    injection hg with hg
    exact ho _ _ _ hg

theorem Acc.turn {e sz : Nat} {w0 w w' : World} {A : Option Addr} {c n r : Nat} {cs : List Value} (h : Acc e sz w0 w A c n cs) (hg : w.grownBy w' (some r)) (hne : some r ≠ Value.ownBlock (.slice A n c)) (hr : w0.heap.size ≤ r) : Acc e sz w0 w' A c n cs :=
  ⟨h.own.kept hg (.inr (Ne.symm hne)), h.ext.grown hg h.ext.size (fun k hk => by injection hk with hk; omega)⟩
theorem grown_obj {w w' : World} {row : Option Nat} (hg : w.grownBy w' row) {r : Nat} {o : Obj} (hr : w.heap[r]? = some o) (hne : some r ≠ row) : w'.heap[r]? = some o := by
  have hlt : r < w.heap.size := (Array.getElem?_eq_some_iff.1 hr).1
  exact (hg.block r hlt hne).trans hr

/-- the blocks of two own slices differ -/
def Apart (A B : Option Addr) : Prop := ∀ a b : Addr, A = some a → B = some b → a.block ≠ b.block

/-- append of m elements that a literal has just laid -/
theorem oper_app {T e sz byt : Nat} (E : EI T e sz byt) {o : Oper} {a : Act} {K' : Act → World → Prop} {Q : Exit → Act → World → Prop} (s x : Operand)
    (ho : o.op = .call { callee := .builtin .append, args := #[s, x], argTypes := #[T, T] })
    (w0 wr : World) (A : Option Addr) (c n : Nat) (cs : List Value) (hs : a.eval s = .slice A n c) (hacc : Acc e sz w0 wr A c n cs)
    (news : List Value) (m m' : Nat) (hx : a.eval x = .slice (some ⟨wr.heap.size, 0, none⟩) m m') (hm : news.length = m * sz) (h1 : ∀ u ∈ news, u.oneCell' = true)
    (hb : (n + m) * byt ≤ 140737488355328) (hl : n + m ≤ maxLen)
    (K : ∀ A' c' w', Acc e sz w0 w' A' c' (n + m) (cs ++ news) → (∀ e2 sz2, ∀ B : Option Addr, ∀ cB nB csB, Acc e2 sz2 w0 wr B cB nB csB → Apart A B → Acc e2 sz2 w0 w' B cB nB csB ∧ Apart A' B) → wr.grownBy w' (Value.ownBlock (.slice A n c)) →
      K' (a.put o.dst (.slice A' (n + m) c')) w') : o.wp Tryz.prog a (wr.alloc (.cells news.toArray e)) K' Q := by
  obtain ⟨i, z, hi, hz, hsize, hby, hzs⟩ := E.hi
  have hown := hacc.own.alloc (.cells news.toArray e)
  have hsz := hacc.ext.size
  obtain ⟨v', w', hrun, hown', hg, _, hat⟩ := run_append_own_at (P := Tryz.prog) (wr.alloc (.cells news.toArray e)) w0.heap.size T o.type e i z sz byt E.ht hi hz hsize hby hzs E.pos (.slice A n c) n cs hown
    ⟨wr.heap.size, 0, none⟩ m m' news hm (by intro j u hu; simp [Addr.add]; split <;> simp_all) h1 hl hb (by simp; omega)
  obtain ⟨A', c', rfl⟩ := own_form hown'
  have hbl : Below w0.heap.size w0 w' := ((hacc.ext.alloc hsz _).grown hg (by simp; omega) (fun k hk => by
    have := (hown.lt k hk).1; exact this))
  unfold Oper.wp execOp
  simp only [ho, resolve, invoke, builtin, Sem.run_bind, Sem.run_pure, Result.andThen_ok, List.map_toArray, List.map_cons, List.map_nil, hs, hx, hrun]
  refine K A' c' w' ⟨hown', hbl⟩ ?_ ⟨hg.os, hg.tape, hg.output, Nat.le_trans (by simp) hg.size, fun i hi hne => (hg.block i (by simp; omega) hne).trans (Below.heap_alloc _ _ _ hi)⟩
  intro e2 sz2 B cB nB csB hB hap
  have hBlt : ∀ b : Addr, B = some b → b.block < wr.heap.size := fun b hb => (hB.own.lt b.block (by rw [hb]; rfl)).2
  refine ⟨⟨(hB.own.alloc _).kept hg ?_, hbl⟩, ?_⟩
  · cases B with
    | none => exact .inl rfl
    | some b => 
      refine .inr ?_
      cases A with
      | none => simp [Value.ownBlock]
      | some a => simpa [Value.ownBlock] using (hap a b rfl rfl).symm
  · intro a' b ha hb
    subst ha; subst hb
    rcases hat with h | h
    · cases A with
      | none => simp [Value.ownBlock] at h
      | some a0 =>
        have e0 : a'.block = a0.block := by simpa [Value.ownBlock] using h
        rw [e0]; exact hap a0 b rfl rfl
    · have e0 : a'.block = wr.heap.size + 1 := by simpa [Value.ownBlock] using h
      have := hBlt b rfl
      omega
theorem wp_app {T e sz byt : Nat} (E : EI T e sz byt) {ops : Array Oper} {rest : List Oper} {o : Oper} {a : Act} {Q : Exit → Act → World → Prop} (hgd : o.guard = none) (s x : Operand)
    (ho : o.op = .call { callee := .builtin .append, args := #[s, x], argTypes := #[T, T] })
    (w0 wr : World) (A : Option Addr) (c n : Nat) (cs : List Value) (hs : a.eval s = .slice A n c) (hacc : Acc e sz w0 wr A c n cs)
    (news : List Value) (m m' : Nat) (hx : a.eval x = .slice (some ⟨wr.heap.size, 0, none⟩) m m') (hm : news.length = m * sz) (h1 : ∀ u ∈ news, u.oneCell' = true)
    (hb : (n + m) * byt ≤ 140737488355328) (hl : n + m ≤ maxLen)
    (K : ∀ A' c' w', Acc e sz w0 w' A' c' (n + m) (cs ++ news) → (∀ e2 sz2, ∀ B : Option Addr, ∀ cB nB csB, Acc e2 sz2 w0 wr B cB nB csB → Apart A B → Acc e2 sz2 w0 w' B cB nB csB ∧ Apart A' B) → wr.grownBy w' (Value.ownBlock (.slice A n c)) →
      wpList Tryz.prog ops Q rest (a.put o.dst (.slice A' (n + m) c')) w') : wpList Tryz.prog ops Q (o :: rest) a (wr.alloc (.cells news.toArray e)) :=
  wpList_plain hgd fun _ hK => oper_app E s x ho w0 wr A c n cs hs hacc news m m' hx hm h1 hb hl fun A' c' w' h2 h3 h4 => hK _ _ (K A' c' w' h2 h3 h4)
/-- the same in a region that draws its order -/
theorem step_app {T e sz byt : Nat} (E : EI T e sz byt) {ops : Array Oper} {o : Oper} {a : Act} {K' : Act → World → Prop} {Q : Exit → Act → World → Prop} {X : Prop} (hgd : o.guard = none) (s x : Operand)
    (ho : o.op = .call { callee := .builtin .append, args := #[s, x], argTypes := #[T, T] })
    (w0 wr : World) (A : Option Addr) (c n : Nat) (cs : List Value) (hs : a.eval s = .slice A n c) (hacc : Acc e sz w0 wr A c n cs)
    (news : List Value) (m m' : Nat) (hx : a.eval x = .slice (some ⟨wr.heap.size, 0, none⟩) m m') (hm : news.length = m * sz) (h1 : ∀ u ∈ news, u.oneCell' = true)
    (hb : (n + m) * byt ≤ 140737488355328) (hl : n + m ≤ maxLen)
    (K : ∀ A' c' w', Acc e sz w0 w' A' c' (n + m) (cs ++ news) → (∀ e2 sz2, ∀ B : Option Addr, ∀ cB nB csB, Acc e2 sz2 w0 wr B cB nB csB → Apart A B → Acc e2 sz2 w0 w' B cB nB csB ∧ Apart A' B) → wr.grownBy w' (Value.ownBlock (.slice A n c)) →
      K' (a.put o.dst (.slice A' (n + m) c')) w') : if Region.wanted o (yielded ops a.tmps) = true then o.wp Tryz.prog a (wr.alloc (.cells news.toArray e)) K' Q else X := by
  have hw : Region.wanted o (yielded ops a.tmps) = true := by simp [Region.wanted, hgd]
  rw [if_pos hw]
  exact oper_app E s x ho w0 wr A c n cs hs hacc news m m' hx hm h1 hb hl K
/-- what a literal has laid is the call's own -/
theorem Acc.lit {e sz : Nat} {w0 w : World} (hx : Ext w0 w) (cs : List Value) (n : Nat) (hl : cs.length = n * sz) (hm : n ≤ maxLen) : Acc e sz w0 (w.alloc (.cells cs.toArray e)) (some ⟨w.heap.size, 0, none⟩) n n cs :=
  ⟨World.ownsRow_lit w cs.toArray n hx.size hm (by simpa using hl), hx.alloc hx.size _⟩
end Go.Proofs.YtdkjkbbibdppoaaGreatDoor
