/- append of a whole slice to one of our own; slices.Clone of pieces. -/
import Derived.Test.YtdkjkbbibdppoaaGreatDoorPat5
import Derived.Deep.RegionHeld3
namespace Go.Proofs.YtdkjkbbibdppoaaGreatDoor.Pat
open Go.RowKit
set_option linter.unusedVariables false
set_option linter.unusedSimpArgs false

set_option maxRecDepth 10000 in
theorem oper_src {T e sz byt : Nat} (E : EI T e sz byt) {o : Oper} {a : Act} {K' : Act → World → Prop} {Q : Exit → Act → World → Prop} (s x : Operand)
    (ho : o.op = .call { callee := .builtin .append, args := #[s, x], argTypes := #[T, T] })
    (w0 wr : World) (A : Option Addr) (c n : Nat) (cs : List Value) (hs : a.eval s = .slice A n c) (hacc : Acc e sz w0 wr A c n cs)
    (A2 : Option Addr) (m m' : Nat) (news : List Value) (hx : a.eval x = .slice A2 m m') (hrow : Row wr A2 news) (hok : Okc A2 m') (hm : news.length = m * sz) (h1 : ∀ u ∈ news, u.oneCell' = true)
    (hb : (n + m) * byt ≤ 140737488355328) (hl : n + m ≤ maxLen)
    (K : ∀ A' c' w', Acc e sz w0 w' A' c' (n + m) (cs ++ news) → wr.grownBy w' (Value.ownBlock (.slice A n c)) → K' (a.put o.dst (.slice A' (n + m) c')) w') : o.wp Tryz.prog a wr K' Q := by
  obtain ⟨i, z, hi, hz, hsize, hby, hzs⟩ := E.hi
  have hsz := hacc.ext.size
  have hpos := E.pos
  cases A2 with
  | none =>
    have hn : news = [] := by
      rcases hrow with h | ⟨b, off, h, _⟩
      · exact h
      · cases h
    subst hn
    have hm0 : m = 0 := by
      rcases Nat.eq_zero_or_pos m with h | h
      · exact h
      · have := Nat.mul_pos h hpos; simp at hm; omega
    subst hm0
    have hm' := hok.2 rfl
    subst hm'
    have hrun := run_append_owned_none (P := Tryz.prog) (w := wr) w0.heap.size T o.type e i sz E.ht hi _ n cs hacc.own
    unfold Oper.wp execOp
    simp only [ho, resolve, invoke, builtin, Sem.run_bind, Sem.run_pure, Result.andThen_ok, List.map_toArray, List.map_cons, List.map_nil, hs, hx, hrun]
    have := K A c wr (by simpa using hacc) ⟨rfl, rfl, rfl, Nat.le_refl _, fun _ _ _ => rfl⟩
    simp only [Nat.add_zero] at this
    exact this
  | some a2 =>
    have hnews : ∀ j u, news[j]? = some u → wr.cell? (a2.add j) = some u := by
      intro j u hj
      rcases hrow with h | ⟨b, off, h, h2⟩
      · subst h; simp at hj
      · injection h with h; subst h
        exact (congrArg wr.cell? (Addr.add_mid b off j)).trans (h2 j u hj)
    obtain ⟨v', w', hrun, hown', hg, _, hat⟩ := run_append_own_at (P := Tryz.prog) wr w0.heap.size T o.type e i z sz byt E.ht hi hz hsize hby hzs E.pos (.slice A n c) n cs hacc.own
      a2 m m' news hm hnews h1 hl hb hsz
    obtain ⟨A', c', rfl⟩ := own_form hown'
    have hbl : Below w0.heap.size w0 w' := hacc.ext.grown hg hsz (fun k hk => (hacc.own.lt k hk).1)
    unfold Oper.wp execOp
    simp only [ho, resolve, invoke, builtin, Sem.run_bind, Sem.run_pure, Result.andThen_ok, List.map_toArray, List.map_cons, List.map_nil, hs, hx, hrun]
    exact K A' c' w' ⟨hown', hbl⟩ hg
theorem wp_src {T e sz byt : Nat} (E : EI T e sz byt) {ops : Array Oper} {rest : List Oper} {o : Oper} {a : Act} {Q : Exit → Act → World → Prop} (hgd : o.guard = none) (s x : Operand)
    (ho : o.op = .call { callee := .builtin .append, args := #[s, x], argTypes := #[T, T] })
    (w0 wr : World) (A : Option Addr) (c n : Nat) (cs : List Value) (hs : a.eval s = .slice A n c) (hacc : Acc e sz w0 wr A c n cs)
    (A2 : Option Addr) (m m' : Nat) (news : List Value) (hx : a.eval x = .slice A2 m m') (hrow : Row wr A2 news) (hok : Okc A2 m') (hm : news.length = m * sz) (h1 : ∀ u ∈ news, u.oneCell' = true)
    (hb : (n + m) * byt ≤ 140737488355328) (hl : n + m ≤ maxLen)
    (K : ∀ A' c' w', Acc e sz w0 w' A' c' (n + m) (cs ++ news) → wr.grownBy w' (Value.ownBlock (.slice A n c)) → wpList Tryz.prog ops Q rest (a.put o.dst (.slice A' (n + m) c')) w') : wpList Tryz.prog ops Q (o :: rest) a wr :=
  wpList_plain hgd fun _ hK => oper_src E s x ho w0 wr A c n cs hs hacc A2 m m' news hx hrow hok hm h1 hb hl fun A' c' w' h2 h3 => hK _ _ (K A' c' w' h2 h3)
theorem step_src {T e sz byt : Nat} (E : EI T e sz byt) {ops : Array Oper} {o : Oper} {a : Act} {K' : Act → World → Prop} {Q : Exit → Act → World → Prop} {X : Prop} (hgd : o.guard = none) (s x : Operand)
    (ho : o.op = .call { callee := .builtin .append, args := #[s, x], argTypes := #[T, T] })
    (w0 wr : World) (A : Option Addr) (c n : Nat) (cs : List Value) (hs : a.eval s = .slice A n c) (hacc : Acc e sz w0 wr A c n cs)
    (A2 : Option Addr) (m m' : Nat) (news : List Value) (hx : a.eval x = .slice A2 m m') (hrow : Row wr A2 news) (hok : Okc A2 m') (hm : news.length = m * sz) (h1 : ∀ u ∈ news, u.oneCell' = true)
    (hb : (n + m) * byt ≤ 140737488355328) (hl : n + m ≤ maxLen)
    (K : ∀ A' c' w', Acc e sz w0 w' A' c' (n + m) (cs ++ news) → wr.grownBy w' (Value.ownBlock (.slice A n c)) → K' (a.put o.dst (.slice A' (n + m) c')) w') : if Region.wanted o (yielded ops a.tmps) = true then o.wp Tryz.prog a wr K' Q else X := by
  have hw : Region.wanted o (yielded ops a.tmps) = true := by simp [Region.wanted, hgd]
  rw [if_pos hw]
  exact oper_src E s x ho w0 wr A c n cs hs hacc A2 m m' news hx hrow hok hm h1 hb hl K

theorem pcs_oneCell (l : List Pc) : ∀ u ∈ pcsV l, u.oneCell' = true := by
  intro u hu
  unfold pcsV at hu
  obtain ⟨p, _, hp⟩ := List.mem_flatMap.1 hu
  simp [pcV] at hp
  rcases hp with rfl | rfl <;> rfl
set_option maxHeartbeats 1000000 in
theorem clone_ (A : Option Addr) (c : Nat) (l : List Pc) (w : World) (hr : Row w A (pcsV l)) (hok : Okc A c) (hl : l.length ≤ 1000000000) :
    Calls Tryz.prog 98 #[.slice A l.length c] w fun e w' => ∃ B d, e = .returned (.slice B l.length d) ∧ Row w' B (pcsV l) ∧ l.length ≤ d ∧ Okc B d ∧ Fresh w B ∧ Ext w w' := by
  have q28 : ∀ (w : World) (a : Option Addr) (n c n' c' : Nat), (binOp .eql 26 (.slice a n c) (.slice none n' c')).run Tryz.prog w = .ok (.bool a.isNone) w := fun w a n c n' c' => Lib.run_eql_slice_nil w _ _ a n c n' c' Tryz.underlying26
  cases A with
  | none =>
    have hn : l.length = 0 := by
      rcases hr with h | ⟨b, off, h, _⟩
      · have := congrArg List.length h; rw [pcsV_len] at this; simp only [List.length_nil] at this; omega
      · cases h
    have hl0 := List.eq_nil_of_length_eq_zero hn
    subst hl0
    go_enter Tryz.func98, Tryz.ntmps98
    go_wp2
    go_ret
    exact ⟨none, 0, rfl, Row.nil, Nat.le_refl _, ⟨Nat.zero_le _, fun _ => rfl⟩, fun a h => (by cases h), Ext.refl _⟩
  | some a =>
    have hacc : Acc 96 2 w (w.alloc (.cells #[] 96)) (some ⟨w.heap.size, 0, none⟩) 0 0 [] := Acc.lit (Ext.refl w) [] 0 rfl (by decide)
    have hr2 : Row (w.alloc (.cells #[] 96)) (some a) (pcsV l) := hr.below (Ext.alloc_ (Ext.refl w) _) (Nat.le_refl _)
    have HL := Lib.hid (pcsV_len l)
    go_enter Tryz.func98, Tryz.ntmps98
    go_wp2_with (at_builtin; refine wp_src ei_pc rfl (.tmp 5) (.tmp 6) rfl w _ (some ⟨w.heap.size, 0, none⟩) 0 0 [] rfl hacc (some a) l.length c (pcsV l) rfl hr2 hok (by rw [HL.out]; omega) (pcs_oneCell l) (by omega) (by unfold maxLen; omega) ?_; intro A1 c1 w3 hacc3 _; clear hacc)
    go_ret
    rw [List.nil_append] at hacc3
    exact ⟨A1, c1, by simp, hacc3.row, by have := hacc3.cap.1; omega, Acc.okc hacc3, Acc.fresh hacc3, hacc3.ext⟩
end Go.Proofs.YtdkjkbbibdppoaaGreatDoor.Pat
