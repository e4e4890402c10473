/- Patterns of numbers: a literal's text as it is printed: the closure flush over two strings.Builders. -/
import Derived.Test.YtdkjkbbibdppoaaGreatDoorBuild3
import Derived.Test.YtdkjkbbibdppoaaGreatDoorPatT
namespace Go.Proofs.YtdkjkbbibdppoaaGreatDoor.Pat
open Go.RowKit Utf All Small Strs Build
set_option linter.unusedVariables false
set_option linter.unusedSimpArgs false

def dblB (l : List UInt8) : List UInt8 := l.flatMap fun b => if b = 39 then [39, 39] else [b]
/-- a run of signs that mean something, as it is printed -/
def escRun (l : List UInt8) : List UInt8 := if l.any (· != 39) then 39 :: (dblB l ++ [39]) else dblB l
theorem dblB_len (l : List UInt8) : l.length ≤ (dblB l).length ∧ (dblB l).length ≤ 2 * l.length := by
  induction l with
  | nil => simp [dblB]
  | cons b l ih =>
    have e : dblB (b :: l) = (if b = 39 then [39, 39] else [b]) ++ dblB l := rfl
    rw [e, List.length_append, List.length_cons]
    split <;> simp <;> omega
theorem escRun_len (l : List UInt8) : (escRun l).length ≤ 2 * l.length + 2 := by
  have := dblB_len l
  unfold escRun; split <;> simp <;> omega
theorem repK_ne (b c : UInt8) (new l : List UInt8) (k : Nat) (h : b ≠ c) : Lib.replaceK [c] new k (b :: l) = b :: Lib.replaceK [c] new k l := by
  cases k with
  | zero => rfl
  | succ k =>
    have hp : ([c].isPrefixOf (b :: l)) = false := by simp [List.isPrefixOf]; exact fun e => absurd e.symm h
    have hi : Lib.index (b :: l) [c] = if Lib.index l [c] == -1 then -1 else Lib.index l [c] + 1 := by rw [Lib.index, hp]; rfl
    by_cases hm : Lib.index l [c] == -1
    · rw [if_pos hm] at hi
      rw [Lib.replaceK, Lib.replaceK, if_pos hm, hi]; rfl
    · rw [if_neg hm] at hi
      have hge : -1 ≤ Lib.index l [c] := by rw [Lib.index_one]; exact Lib.indexByte_ge _ _
      have hne : Lib.index l [c] ≠ -1 := by simpa using hm
      have h2 : ¬ (Lib.index l [c] + 1 == -1) = true := by simp; omega
      rw [Lib.replaceK, hi, if_neg h2, Lib.replaceK, if_neg hm]
      have e : (Lib.index l [c] + 1).toNat = (Lib.index l [c]).toNat + 1 := by omega
      rw [e]
      simp
theorem repK_dbl (l : List UInt8) : Lib.replaceK [39] [39, 39] (l.count 39) l = dblB l := by
  induction l with
  | nil => rfl
  | cons b l ih =>
    by_cases h : b = 39
    · subst h
      have hi : Lib.index (39 :: l) [39] = 0 := by rw [Lib.index_one, Lib.indexByte]; simp
      rw [List.count_cons_self, Lib.replaceK, hi]
      simp [ih, dblB]
    · rw [List.count_cons_of_ne h, repK_ne b 39 _ l _ h, ih]
      simp [dblB, h]
theorem repAll (l : List UInt8) : Lib.replaceAll l [39] [39, 39] = dblB l := by
  unfold Lib.replaceAll Lib.replace
  rw [if_neg (by decide)]
  unfold Lib.replaceNum
  rw [if_pos (.inl (by decide)), Lib.count_one, repK_dbl]
theorem dw_nil {α : Type} (p : α → Bool) (l : List α) : l.dropWhile p = [] ↔ ∀ x ∈ l, p x = true := by
  induction l with
  | nil => simp
  | cons b l ih =>
    rw [List.dropWhile_cons]
    split
    · rename_i h; rw [ih]; simp [h]
    · rename_i h; simp [h]
theorem trimB_nil (x : List UInt8) (c : UInt8) : (Lib.trimB x c = []) ↔ x.any (· != c) = false := by
  unfold Lib.trimB Lib.trimLeftB Lib.trimRightB
  constructor
  · intro h
    rw [List.any_eq_false]
    intro b hb hne
    have h1 : ∀ y ∈ (x.reverse.dropWhile (· == c)).reverse, (y == c) = true := (dw_nil _ _).1 h
    cases hd : x.reverse.dropWhile (· == c) with
    | nil =>
      have := (dw_nil _ _).1 hd b (by simpa using hb)
      simp_all
    | cons z r =>
      have hz : ¬ (z == c) = true := by
        have := List.head?_dropWhile_not (p := (· == c)) x.reverse
        rw [hd] at this
        simpa using this
      exact hz (h1 z (by rw [hd]; simp))
  · intro h
    rw [List.any_eq_false] at h
    have h2 : x.reverse.dropWhile (· == c) = [] := (dw_nil _ _).2 fun y hy => by
      have := h y (by simpa using hy)
      simpa using this
    rw [h2]; rfl
theorem dbl_any (l : List UInt8) : (dblB l).any (· != 39) = l.any (· != 39) := by
  induction l with
  | nil => rfl
  | cons b l ih =>
    have e : dblB (b :: l) = (if b = 39 then [39, 39] else [b]) ++ dblB l := rfl
    rw [e, List.any_append, ih, List.any_cons]
    split
    · rename_i h; subst h; rfl
    · simp
theorem countB_le (l : List UInt8) : Lib.countB ⟨l.toArray⟩ ⟨#[39]⟩ ≤ l.length := by
  have : Lib.countB ⟨l.toArray⟩ ⟨#[39]⟩ = l.count 39 := Lib.count_one 39 _
  rw [this]; exact List.count_le_length

theorem replace_q (l : List UInt8) (w : World) (HM : ∃ m, w.cell? ⟨2, 0, none⟩ = some (.int .i64 m)) (hl : l.length ≤ 1000000000) :
    Calls Tryz.prog 182 #[.string ⟨l.toArray⟩, .string ⟨#[39]⟩, .string ⟨#[39, 39]⟩] w fun e w' => e = .returned (.string ⟨(dblB l).toArray⟩) ∧ Ext w w' := by
  obtain ⟨m, hm⟩ := HM
  have hsz : (⟨l.toArray⟩ : ByteArray).size = l.length := rfl
  have h2 : (⟨#[39, 39]⟩ : ByteArray).size = 2 := rfl
  have h1 : (⟨#[39]⟩ : ByteArray).size = 1 := rfl
  have hc := countB_le l
  refine (Tryz.strings_ReplaceAll _ _ _ m w (by rw [hsz]; omega) hm (by rw [h1]; omega) (by rw [hsz, h2]; omega)).mono ?_
  rintro e w' ⟨rfl, h⟩
  refine ⟨?_, h⟩
  show Ending.returned (.string ⟨(Lib.replaceAll l [39] [39, 39]).toArray⟩) = _
  rw [repAll]
theorem trim_q (l : List UInt8) (w : World) (hl : l.length ≤ 10000000000) :
    Calls Tryz.prog 183 #[.string ⟨l.toArray⟩, .string ⟨#[39]⟩] w fun e w' => e = .returned (.string ⟨(Lib.trimB l 39).toArray⟩) ∧ Ext w w' := by
  have hsz : (⟨l.toArray⟩ : ByteArray).size = l.length := rfl
  refine (Tryz.strings_Trim_one ⟨l.toArray⟩ 39 (by decide) w (by rw [hsz]; omega)).mono ?_
  rintro e w' ⟨rfl, h⟩
  refine ⟨rfl, ?_⟩
  rcases h with rfl | rfl
  · exact Ext.refl _
  · exact Ext.drew_ (Ext.refl _)

abbrev isBp (b : Nat) (p : Value) : Prop := p = .pointer none ∨ p = .pointer (some ⟨b, 0, none⟩)
/-- one part behind the other, seen from the first world -/
theorem ButS.on {S S' : Nat → Prop} {w1 w w' : World} (h : ButS S w1 w) (k : ButS S' w w') (hs : ∀ k, k < w1.heap.size → S' k → S k) : ButS S w1 w' :=
  ⟨k.os.trans h.os, k.tape.trans h.tape, k.output.trans h.output, Nat.le_trans h.size k.size, fun i hi hn => (k.block i (Nat.lt_of_lt_of_le hi h.size) (fun e => hn (hs i hi e))).trans (h.block i hi hn)⟩
abbrev Two (b : Nat) : Nat → Prop := fun k => k = b ∨ k = b + 1
/-- both builders of escaped (blocks b and b + 1; w1: the world behind which they are written): what is printed, and the run -/
structure EscR (b : Nat) (w1 w : World) (out run : List UInt8) : Prop where
  ex : ∃ p v q u base, w.heap[b]? = some (.cells #[p, v] 214 (0, 0)) ∧ isBp b p ∧ w.ownsRow w1.heap.size 5 1 v out.length (Lib.byteCells out) ∧
    w.heap[b + 1]? = some (.cells #[q, u] 214 (0, 0)) ∧ isBp (b + 1) q ∧ w.ownsRow base 5 1 u run.length (Lib.byteCells run) ∧
    (∀ k, v.ownBlock = some k → k < base) ∧ w1.heap.size ≤ base ∧ base ≤ w.heap.size ∧ (run = [] → u = .slice none 0 0)
  lt : b + 1 < w1.heap.size
  but : ButS (Two b) w1 w
theorem strCells_l (l : List UInt8) : Lib.strCells ⟨l.toArray⟩ = Lib.byteCells l := Lib.strCells_eq _
theorem cells_app (l m : List UInt8) : Lib.byteCells l ++ Lib.byteCells m = Lib.byteCells (l ++ m) := (Lib.byteCells_append l m).symm
theorem write_run (b : Nat) (w1 w : World) (out run s : List UInt8) (h : EscR b w1 w out run) (hs : s ≠ []) (hl : run.length + s.length ≤ 1000000000000) :
    Calls Tryz.prog 176 #[.pointer (some ⟨b + 1, 0, none⟩), .string ⟨s.toArray⟩] w fun e w' => e = .returned (.tuple #[.int .i64 s.length, .nilIface]) ∧ EscR b w1 w' out (run ++ s) := by
  obtain ⟨⟨p, v, q, u, base, hb, hp, hv, hr, hq, hu, hlt, hb2, hbw, hn⟩, hl1, hx⟩ := h
  have hsz : (⟨s.toArray⟩ : ByteArray).size = s.length := rfl
  have hne : v.ownBlock ≠ some (b + 1) := Lib.ownBlock_ne hv hr (by decide)
  rw [show run.length = (Lib.byteCells run).length by simp [Lib.byteCells]] at hu
  refine (write_two (b + 1) base q u (Lib.byteCells run) ⟨s.toArray⟩ w hr hq hu (by simp [Lib.byteCells, hsz]; omega) hbw).mono ?_
  rintro e w' ⟨rfl, u', h1, h2, h3, h4⟩
  refine ⟨by rw [hsz], ⟨p, v, _, u', base, ?_, hp, ?_, h1, .inr rfl, ?_, hlt, hb2, Nat.le_trans hbw h4.size, ?_⟩, hl1, ?_⟩
  · rw [h4.block _ (heap_lt hb) (by
      rintro (e | e)
      · omega
      · have := (hu.lt _ e).1; omega)]
    exact hb
  · refine own_move hv fun k hk => h4.block k (hv.lt k hk).2 ?_
    rintro (e | e)
    · exact hne (by rw [hk, e])
    · have := (hu.lt _ e).1; have := hlt k hk; omega
  · rw [strCells_l, cells_app] at h2
    simpa [Lib.byteCells] using h2
  · intro e; simp at e; exact absurd e.2 hs
  · exact ButS.on hx h4 (by
      rintro k hk (e | e)
      · exact .inr e
      · have := (hu.lt _ e).1; omega)
theorem write_out (b : Nat) (w1 w : World) (out s : List UInt8) (h : EscR b w1 w out []) (hl : out.length + s.length ≤ 1000000000000) :
    Calls Tryz.prog 176 #[.pointer (some ⟨b, 0, none⟩), .string ⟨s.toArray⟩] w fun e w' => e = .returned (.tuple #[.int .i64 s.length, .nilIface]) ∧ EscR b w1 w' (out ++ s) [] := by
  obtain ⟨⟨p, v, q, u, base, hb, hp, hv, hr, hq, hu, hlt, hb2, hbw, hn⟩, hl1, hx⟩ := h
  obtain rfl := hn rfl
  have hsz : (⟨s.toArray⟩ : ByteArray).size = s.length := rfl
  have hne : v.ownBlock ≠ some (b + 1) := Lib.ownBlock_ne hv hr (by decide)
  rw [show out.length = (Lib.byteCells out).length by simp [Lib.byteCells]] at hv
  refine (write_two b w1.heap.size p v (Lib.byteCells out) ⟨s.toArray⟩ w hb hp hv (by simp [Lib.byteCells, hsz]; omega) hx.size).mono ?_
  rintro e w' ⟨rfl, v', h1, h2, h3, h4⟩
  refine ⟨by rw [hsz], ⟨_, v', q, _, w'.heap.size, h1, .inr rfl, ?_, ?_, hq, World.ownsRow_nil _ _ _ _, fun k hk => (h2.lt k hk).2, Nat.le_trans hx.size h4.size, Nat.le_refl _, fun _ => rfl⟩, hl1, ?_⟩
  · rw [strCells_l, cells_app] at h2
    simpa [Lib.byteCells] using h2
  · rw [h4.block _ (heap_lt hr) (by
      rintro (e | e)
      · omega
      · exact hne e)]
    exact hr
  · exact ButS.on hx h4 (by
      rintro k hk (e | e)
      · exact .inl e
      · have := (hv.lt _ e).1; omega)
/-- a builder in the midst of flush: what is printed stands, the run's is of whatever content -/
def Mid (b : Nat) (w1 w : World) (out : List UInt8) : Prop := ∃ p v q u, w.heap[b]? = some (.cells #[p, v] 214 (0, 0)) ∧ isBp b p ∧ w.ownsRow w1.heap.size 5 1 v out.length (Lib.byteCells out) ∧
      w.heap[b + 1]? = some (.cells #[q, u] 214 (0, 0)) ∧ b + 1 < w1.heap.size ∧ ButS (Two b) w1 w
theorem Mid.ext {b : Nat} {w1 w w' : World} {out : List UInt8} (h : Mid b w1 w out) (hx : Ext w w') : Mid b w1 w' out := by
  obtain ⟨p, v, q, u, hb, hp, hv, hr, hl, hbut⟩ := h
  exact ⟨p, v, q, u, (hx.block _ (heap_lt hb)).trans hb, hp, own_move hv fun k hk => hx.block k (hv.lt k hk).2, (hx.block _ (heap_lt hr)).trans hr, hl, ButS.on hbut (ButS.of_ext (S := fun _ => False) hx) fun _ _ e => e.elim⟩
theorem str_run (b : Nat) (w1 w : World) (out run : List UInt8) (h : EscR b w1 w out run) :
    Calls Tryz.prog 177 #[.pointer (some ⟨b + 1, 0, none⟩)] w fun e w' => e = .returned (.string ⟨run.toArray⟩) ∧ Mid b w1 w' out := by
  obtain ⟨⟨p, v, q, u, base, hb, hp, hv, hr, hq, hu, hlt, hb2, hbw, hn⟩, hl1, hx⟩ := h
  refine (str_two (b + 1) base q u run w hr hu hn).mono ?_
  rintro e w' ⟨rfl, h4⟩
  have hner : u.ownBlock ≠ some (b + 1) := Lib.ownBlock_ne hu hr (by decide)
  refine ⟨rfl, p, v, q, u, ?_, hp, ?_, ?_, hl1, ?_⟩
  · rw [h4.block _ (heap_lt hb) (fun e => by have := (hu.lt _ e).1; omega)]; exact hb
  · exact own_move hv fun k hk => h4.block k (hv.lt k hk).2 fun e => by have := (hu.lt _ e).1; have := hlt k hk; omega
  · rw [h4.block _ (heap_lt hr) hner]; exact hr
  · exact ButS.on hx h4 (fun k hk e => by have := (hu.lt _ e).1; omega)
theorem reset_run (b : Nat) (w1 w : World) (out : List UInt8) (h : Mid b w1 w out) :
    Calls Tryz.prog 184 #[.pointer (some ⟨b + 1, 0, none⟩)] w fun e w' => e = .returned (.tuple #[]) ∧ EscR b w1 w' out [] := by
  obtain ⟨p, v, q, u, hb, hp, hv, hr, hl1, hx⟩ := h
  have hne : v.ownBlock ≠ some (b + 1) := Lib.ownBlock_ne hv hr (by decide)
  refine (reset_two (b + 1) q u w hr).mono ?_
  rintro e w' ⟨rfl, h1, h4⟩
  have hv' : w'.ownsRow w1.heap.size 5 1 v out.length (Lib.byteCells out) := own_move hv fun k hk => h4.block k (hv.lt k hk).2 fun e => hne (by rw [hk, e])
  refine ⟨rfl, ⟨p, v, _, _, w'.heap.size, ?_, hp, hv', h1, .inl rfl, World.ownsRow_nil _ _ _ _, fun k hk => (hv'.lt k hk).2, Nat.le_trans hx.size h4.size, Nat.le_refl _, fun _ => rfl⟩, hl1, ?_⟩
  · rw [h4.block _ (heap_lt hb) (by omega)]; exact hb
  · exact ButS.on hx h4 (fun k hk e => .inr e)
theorem write_b (b : Nat) (w1 w : World) (out s : List UInt8) (h : Mid b w1 w out) (hl : out.length + s.length ≤ 1000000000000) :
    Calls Tryz.prog 176 #[.pointer (some ⟨b, 0, none⟩), .string ⟨s.toArray⟩] w fun e w' => e = .returned (.tuple #[.int .i64 s.length, .nilIface]) ∧ Mid b w1 w' (out ++ s) := by
  obtain ⟨p, v, q, u, hb, hp, hv, hr, hl1, hx⟩ := h
  have hsz : (⟨s.toArray⟩ : ByteArray).size = s.length := rfl
  have hne : v.ownBlock ≠ some (b + 1) := Lib.ownBlock_ne hv hr (by decide)
  rw [show out.length = (Lib.byteCells out).length by simp [Lib.byteCells]] at hv
  refine (write_two b w1.heap.size p v (Lib.byteCells out) ⟨s.toArray⟩ w hb hp hv (by simp [Lib.byteCells, hsz]; omega) hx.size).mono ?_
  rintro e w' ⟨rfl, v', h1, h2, h3, h4⟩
  refine ⟨by rw [hsz], _, v', q, u, h1, .inr rfl, ?_, ?_, hl1, ?_⟩
  · rw [strCells_l, cells_app] at h2
    simpa [Lib.byteCells] using h2
  · rw [h4.block _ (heap_lt hr) (by
      rintro (e | e)
      · omega
      · exact hne e)]
    exact hr
  · exact ButS.on hx h4 (by
      rintro k hk (e | e)
      · exact .inl e
      · have := (hv.lt _ e).1; omega)

theorem esc_none {l : List UInt8} (h : l.any (· != 39) = false) : Lib.trimB (dblB l) 39 = [] ∧ escRun l = dblB l := by
  refine ⟨(trimB_nil _ _).2 (by rw [dbl_any]; exact h), ?_⟩
  unfold escRun; rw [h]; rfl
theorem esc_some {l : List UInt8} (h : l.any (· != 39) = true) : Lib.trimB (dblB l) 39 ≠ [] ∧ escRun l = 39 :: (dblB l ++ [39]) := by
  refine ⟨fun e => ?_, ?_⟩
  · have := (trimB_nil _ _).1 e
    rw [dbl_any, h] at this; cases this
  · unfold escRun; rw [h]; rfl
theorem quoted_mk (l : List UInt8) : (⟨#[39]⟩ : ByteArray) ++ ⟨l.toArray⟩ ++ ⟨#[39]⟩ = ⟨(39 :: (l ++ [39])).toArray⟩ := by
  refine bytes_ext ?_
  simp
theorem cell_of_mid {b : Nat} {w1 w : World} {out : List UInt8} (h : Mid b w1 w out) (h0 : 2 < b) (HM : ∃ m, w1.cell? ⟨2, 0, none⟩ = some (.int .i64 m)) : ∃ m, w.cell? ⟨2, 0, none⟩ = some (.int .i64 m) := by
  obtain ⟨p, v, q, u, hb, hp, hv, hr, hl1, hx⟩ := h
  obtain ⟨m, hm⟩ := HM
  exact ⟨m, (World.cell?_of_block (a := ⟨2, 0, none⟩) (hx.block 2 (by omega) (by rintro (e | e) <;> omega))).trans hm⟩
set_option maxHeartbeats 2000000 in
set_option maxRecDepth 100000 in
theorem flush_ (b : Nat) (w1 w : World) (out run : List UInt8) (h : EscR b w1 w out run) (h0 : 2 < b) (HM : ∃ m, w1.cell? ⟨2, 0, none⟩ = some (.int .i64 m)) (ho : out.length ≤ 100000000000) (hr : run.length ≤ 1000000000) :
    Calls Tryz.prog 181 #[.pointer (some ⟨b + 1, 0, none⟩), .pointer (some ⟨b, 0, none⟩)] w fun e w' => e = .returned (.tuple #[]) ∧ EscR b w1 w' (out ++ escRun run) [] := by
  have hd := dblB_len run
  have hd2 := escRun_len run
  cases ha : run.any (· != 39)
  · obtain ⟨e1, e2⟩ := esc_none ha
    have E1 := Lib.hid e1
    have E2 := Lib.hid e2
    clear e1 e2 ha
    go_enter Tryz.func181, Tryz.ntmps181
    go_wp2_with fail
    refine (str_run b w1 w out run h).mono ?_; rintro e w2 ⟨rfl, h2⟩
    have HM2 := cell_of_mid h2 h0 HM
    go_wp2_with fail
    refine (replace_q run w2 HM2 hr).mono ?_; rintro e w3 ⟨rfl, x3⟩
    go_wp2_with fail
    refine (trim_q (dblB run) w3 (by omega)).mono ?_; rintro e w4 ⟨rfl, x4⟩; rw [E1.out]
    go_wp2_with fail
    refine (write_b b w1 w4 out (dblB run) ((h2.ext x3).ext x4) (by omega)).mono ?_; rintro e w5 ⟨rfl, h5⟩
    go_wp2_with fail
    refine (reset_run b w1 w5 _ h5).mono ?_; rintro e w6 ⟨rfl, h6⟩
    go_wp2
    go_end0
    exact ⟨rfl, by rw [E2.out]; exact h6⟩
  · obtain ⟨e1, e2⟩ := esc_some ha
    obtain ⟨x, r, e3⟩ : ∃ x r, Lib.trimB (dblB run) 39 = x :: r := by
      cases hh : Lib.trimB (dblB run) 39 with
      | nil => exact absurd hh e1
      | cons x r => exact ⟨x, r, rfl⟩
    have E1 := Lib.hid e3
    have E2 := Lib.hid e2
    clear e1 e2 e3 ha
    go_enter Tryz.func181, Tryz.ntmps181
    go_wp2_with fail
    refine (str_run b w1 w out run h).mono ?_; rintro e w2 ⟨rfl, h2⟩
    have HM2 := cell_of_mid h2 h0 HM
    go_wp2_with fail
    refine (replace_q run w2 HM2 hr).mono ?_; rintro e w3 ⟨rfl, x3⟩
    go_wp2_with fail
    refine (trim_q (dblB run) w3 (by omega)).mono ?_; rintro e w4 ⟨rfl, x4⟩; rw [E1.out]
    go_wp2_with fail
    rw [quoted_mk]
    refine (write_b b w1 w4 out (39 :: (dblB run ++ [39])) ((h2.ext x3).ext x4) (by simp; omega)).mono ?_; rintro e w5 ⟨rfl, h5⟩
    go_wp2_with fail
    refine (reset_run b w1 w5 _ h5).mono ?_; rintro e w6 ⟨rfl, h6⟩
    go_wp2
    go_end0
    exact ⟨rfl, by rw [E2.out]; exact h6⟩
end Go.Proofs.YtdkjkbbibdppoaaGreatDoor.Pat
