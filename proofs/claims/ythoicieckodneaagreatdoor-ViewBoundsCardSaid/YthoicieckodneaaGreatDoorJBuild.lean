/- Joined by wip/join.py: Build Build2 Build3. -/
import Derived.Test.YthoicieckodneaaGreatDoorJBase
import Derived.Test.YthoicieckodneaaGreatDoorShelf
import Derived.Test.YthoicieckodneaaGreatDoorJUtf
import Derived.BigQuiet
import Derived.Deep.QuietTactic
/- A strings.Builder of the call's own: its writers. -/
namespace Go.Proofs.YthoicieckodneaaGreatDoor.Build
open Go.RowKit Small
set_option linter.unusedVariables false
set_option linter.unusedSimpArgs false

theorem sizeBuilder : (Tryz.prog.info? 107).map (fun i => i.size) = some 2 := by kernel_rfl
theorem liesBuilder : liesAt Tryz.prog Tryz.prog.depth 107 (2 / Tryz.prog.cellsOf 107) 0 107 1 = true := by kernel_rfl

abbrev IsB (B b : Nat) (l : List UInt8) (w : World) : Prop := Lib.IsBuilder 107 5 B b (Lib.byteCells l) w
abbrev Used (B b : Nat) (bs : List Value) (w : World) : Prop := Lib.BuilderAt 107 5 B b (.pointer (some ⟨b, 0, none⟩)) bs w

set_option maxHeartbeats 1000000 in
set_option maxRecDepth 100000 in
theorem check_used (b : Nat) (w : World) (h0 : w.cell? ⟨b, 0, none⟩ = some (.pointer (some ⟨b, 0, none⟩))) :
    Calls Tryz.prog 82 #[.pointer (some ⟨b, 0, none⟩)] w fun e w' => e = .returned (.tuple #[]) ∧ w' = w := by
  obtain ⟨j, hj, _⟩ := Option.map_eq_some_iff.1 sizeBuilder
  go_enter Tryz.func82, Tryz.ntmps82
  go_wp2
  rw [Lib.run_neq_ptr_same w _ Tryz.underlying104 hj]
  go_wp2
  go_end0
  exact ⟨rfl, rfl⟩

set_option maxHeartbeats 1000000 in
set_option maxRecDepth 100000 in
theorem check_fresh (b : Nat) (w : World) (h0 : w.cell? ⟨b, 0, none⟩ = some (.pointer none)) (hsh : w.shape? b = some (107, 2)) (hfz : w.frozen? ⟨b, 0, none⟩ = false) :
    Calls Tryz.prog 82 #[.pointer (some ⟨b, 0, none⟩)] w fun e w' => e = .returned (.tuple #[]) ∧ w' = w.setCell ⟨b, 0, none⟩ (.pointer (some ⟨b, 0, none⟩)) := by
  obtain ⟨j, hj, hjs⟩ := Option.map_eq_some_iff.1 sizeBuilder
  go_enter Tryz.func82, Tryz.ntmps82
  go_wp2
  rw [Lib.run_to_unsafe w ⟨b, 0, none⟩ Tryz.underlying104 Tryz.underlying189 hj (by rw [hjs]; decide) hsh (Nat.zero_lt_succ 1)]
  simp only [Result.andThen]
  rw [Oper.upon_value]
  go_wp2
  rw [run_callFunc_extern Tryz.func140 (by kernel_rfl) (by kernel_rfl) (by kernel_rfl) (e := Extern.AbiNoEscape.same) (by kernel_rfl)]
  rw [Lib.run_noEscape]
  simp only [Result.andThen]
  rw [Oper.upon_value]
  go_wp2
  rw [Lib.run_from_unsafe w ⟨b, 0, none⟩ Tryz.underlying189 Tryz.underlying104 hj hsh liesBuilder]
  simp only [Result.andThen]
  rw [Oper.upon_value]
  go_wp2
  go_end0
  exact ⟨rfl, rfl⟩

theorem check_any (B b : Nat) (bs : List Value) (w : World) (h : Lib.IsBuilder 107 5 B b bs w) :
    Calls Tryz.prog 82 #[.pointer (some ⟨b, 0, none⟩)] w fun e w' => e = .returned (.tuple #[]) ∧ (Used B b bs w' ∧ Below B w w') := by
  rcases h with h | h
  · refine (check_fresh b w h.cell0 h.shape h.frozen0).mono ?_
    rintro e w' ⟨rfl, rfl⟩
    exact ⟨rfl, h.used _, (Below.refl B w).setCell (p := ⟨b, 0, none⟩) h.1 _⟩
  · refine (check_used b w h.cell0).mono ?_
    rintro e w' ⟨rfl, rfl⟩
    exact ⟨rfl, h, Below.refl B _⟩


end Go.Proofs.YthoicieckodneaaGreatDoor.Build

/- Walks: strings.Builder (WriteString, Grow), strings.Join with nothing between. -/
namespace Go.Proofs.YthoicieckodneaaGreatDoor.Build
open Go.RowKit
set_option linter.unusedVariables false
set_option linter.unusedSimpArgs false

theorem infoByte : (Tryz.prog.info? 5).map (fun i => (i.zero, i.size, i.bytes)) = some (some (.int .u8 0), 1, 1) := by kernel_rfl
set_option maxHeartbeats 1000000 in
set_option maxRecDepth 100000 in
theorem write_string (B b : Nat) (bs : List Value) (s : ByteArray) (w : World) (h : Lib.IsBuilder 107 5 B b bs w) (hlen : bs.length + s.size ≤ 140737488355328) (hBw : B ≤ w.heap.size) :
    Calls Tryz.prog 62 #[.pointer (some ⟨b, 0, none⟩), .string s] w fun e w' => e = .returned (.tuple #[.int .i64 s.size, .nilIface]) ∧ (Used B b (bs ++ Lib.strCells s) w' ∧ Below B w w') := by
  obtain ⟨i0, hi, hz0, hz1, hz2⟩ := info_parts infoByte
  go_enter Tryz.func62, Tryz.ntmps62
  go_wp2_with fail
  refine (check_any B b bs _ h).mono ?_
  rintro e w1 ⟨rfl, h1, hb1⟩
  obtain ⟨hB, v, hbk, hown, hne⟩ := h1
  have c0 : w1.cell? ⟨b, 0, none⟩ = some (.pointer (some ⟨b, 0, none⟩)) := by rw [Lib.cell_of_heap hbk]; rfl
  have c1 : w1.cell? ⟨b, 1, none⟩ = some v := by rw [Lib.cell_of_heap hbk]; rfl
  go_wp2_with (at_builtin; refine Lib.wpList_append_own_string _ rfl _ _ 105 9 rfl B 5 i0 Tryz.underlying105 Tryz.underlying9 hi hz0 hz1 hz2 _ _ _ rfl hown s rfl ?c3 ?c4 ?c5 ?_)
  case c3 => unfold maxLen; omega
  case c4 => omega
  case c5 => have := hb1.size; omega
  intro v' w2 hown' hgrow _
  have hlt : b < w1.heap.size := by
    rcases Nat.lt_or_ge b w1.heap.size with h' | h'
    · exact h'
    · simp [Array.getElem?_eq_none h'] at hbk
  have hb2 : w2.heap[b]? = some (.cells #[.pointer (some ⟨b, 0, none⟩), v] 107 (0, 0)) := by
    rw [hgrow.block b hlt (fun e => hne e.symm)]
    exact hbk
  have d0 : w2.cell? ⟨b, 0, none⟩ = some (.pointer (some ⟨b, 0, none⟩)) := by rw [Lib.cell_of_heap hb2]; rfl
  have d1 : w2.cell? ⟨b, 1, none⟩ = some v := by rw [Lib.cell_of_heap hb2]; rfl
  have f1 : w2.frozen? ⟨b, 1, none⟩ = false := Lib.frozen_of_heap hb2 1
  obtain ⟨ao, n', cap, rfl⟩ : ∃ ao n' cap, v' = .slice ao n' cap := by
    rcases hown'.2 with ⟨hv, _⟩ | ⟨g, cap, cur, hv, _⟩
    · exact ⟨_, _, _, hv⟩
    · exact ⟨_, _, _, hv⟩
  go_wp2
  go_ret2
  refine ⟨rfl, ?_, ?_⟩
  · exact Lib.BuilderAt.put (T := 107) (e := 5) hB hb2 (bs' := bs ++ Lib.strCells s) (by simpa [Lib.strCells_length] using hown') (by decide)
  · exact (hb1.grown hgrow (by have := hb1.size; omega) (fun k hk => (hown.lt k hk).1)).setCell (p := ⟨b, 1, none⟩) hB _

end Go.Proofs.YthoicieckodneaaGreatDoor.Build

/- Two strings.Builders side by side: what the one's writers leave of the other. -/
namespace Go.Proofs.YthoicieckodneaaGreatDoor.Build
open Go.RowKit
set_option linter.unusedVariables false
set_option linter.unusedSimpArgs false

/-- all stands as it stood, but for the blocks that S names -/
structure ButS (S : Nat → Prop) (w w' : World) : Prop where
  os : w'.os = w.os
  tape : w'.tape = w.tape
  output : w'.output = w.output
  size : w.heap.size ≤ w'.heap.size
  block : ∀ k, k < w.heap.size → ¬ S k → w'.heap[k]? = w.heap[k]?
theorem ButS.refl (S : Nat → Prop) (w : World) : ButS S w w := ⟨rfl, rfl, rfl, Nat.le_refl _, fun _ _ _ => rfl⟩
theorem ButS.trans {S : Nat → Prop} {a b c : World} (h : ButS S a b) (k : ButS S b c) : ButS S a c :=
  ⟨k.os.trans h.os, k.tape.trans h.tape, k.output.trans h.output, Nat.le_trans h.size k.size, fun i hi hs => (k.block i (Nat.lt_of_lt_of_le hi h.size) hs).trans (h.block i hi hs)⟩
theorem ButS.mono {S S' : Nat → Prop} {w w' : World} (h : ButS S w w') (hs : ∀ k, k < w.heap.size → S k → S' k) : ButS S' w w' := ⟨h.os, h.tape, h.output, h.size, fun k hk hn => h.block k hk fun hh => hn (hs k hk hh)⟩
theorem ButS.of_ext {S : Nat → Prop} {w w' : World} (h : Ext w w') : ButS S w w' := ⟨h.os, h.tape, h.output, h.size, fun k hk _ => h.block k hk⟩
theorem ButS.below {S : Nat → Prop} {w w' : World} {B : Nat} (h : ButS S w w') (hB : B ≤ w.heap.size) (hs : ∀ k, S k → B ≤ k) : Below B w w' :=
  ⟨h.os, h.tape, h.output, h.size, fun k hk => h.block k (by omega) fun hh => by have := hs k hh; omega⟩
theorem ButS.grown {w w' : World} {row : Option Nat} (h : w.grownBy w' row) : ButS (fun k => row = some k) w w' :=
  ⟨h.os, h.tape, h.output, h.size, fun k hk hn => h.block k hk fun e => hn e.symm⟩
theorem ButS.setCell {w : World} (b j : Nat) (v : Value) : ButS (fun k => k = b) w (w.setCell ⟨b, j, none⟩ v) :=
  ⟨rfl, rfl, rfl, by simp, fun k hk hn => heap_setCell_other w ⟨b, j, none⟩ k v hn⟩

theorem own_move {base e n : Nat} {v : Value} {xs : List Value} {w w' : World} (h : w.ownsRow base e 1 v n xs) (hk : ∀ k, v.ownBlock = some k → w'.heap[k]? = w.heap[k]?) : w'.ownsRow base e 1 v n xs := by
  refine ⟨h.1, ?_⟩
  rcases h.2 with hn | ⟨g, cap, cur, hv, hb, hg, rest⟩
  · exact .inl hn
  · exact .inr ⟨g, cap, cur, hv, hb, (hk g (by rw [hv]; rfl)).trans hg, rest⟩
theorem own_base {base base' e n : Nat} {v : Value} {xs : List Value} {w : World} (h : w.ownsRow base e 1 v n xs) (hk : ∀ k, v.ownBlock = some k → base' ≤ k) : w.ownsRow base' e 1 v n xs := by
  refine ⟨h.1, ?_⟩
  rcases h.2 with hn | ⟨g, cap, cur, hv, hb, rest⟩
  · exact .inl hn
  · exact .inr ⟨g, cap, cur, hv, hk g (by rw [hv]; rfl), rest⟩
theorem heap_lt {w : World} {b : Nat} {o : Obj} (h : w.heap[b]? = some o) : b < w.heap.size := (Array.getElem?_eq_some_iff.1 h).1

set_option maxHeartbeats 1000000 in
theorem check_two (b : Nat) (p v : Value) (w : World) (hbk : w.heap[b]? = some (.cells #[p, v] 107 (0, 0))) (hp : p = .pointer none ∨ p = .pointer (some ⟨b, 0, none⟩)) :
    Calls Tryz.prog 82 #[.pointer (some ⟨b, 0, none⟩)] w fun e w' => e = .returned (.tuple #[]) ∧ (w'.heap[b]? = some (.cells #[.pointer (some ⟨b, 0, none⟩), v] 107 (0, 0)) ∧ ButS (fun k => k = b) w w') := by
  rcases hp with rfl | rfl
  · refine (check_fresh b w (by rw [Lib.cell_of_heap hbk]; rfl) (by simp [World.shape?, hbk]) (Lib.frozen_of_heap hbk 0)).mono ?_
    rintro e w' ⟨rfl, rfl⟩
    exact ⟨rfl, by simp [World.setCell, Array.getElem?_modify, hbk], ButS.setCell b 0 _⟩
  · refine (check_used b w (by rw [Lib.cell_of_heap hbk]; rfl)).mono ?_
    rintro e w' ⟨rfl, rfl⟩
    exact ⟨rfl, hbk, ButS.refl _ _⟩

set_option maxHeartbeats 1000000 in
set_option maxRecDepth 100000 in
theorem write_two (b base : Nat) (p v : Value) (bs : List Value) (s : ByteArray) (w : World) (hbk : w.heap[b]? = some (.cells #[p, v] 107 (0, 0))) (hp : p = .pointer none ∨ p = .pointer (some ⟨b, 0, none⟩))
    (hown : w.ownsRow base 5 1 v bs.length bs) (hlen : bs.length + s.size ≤ 140737488355328) (hbw : base ≤ w.heap.size) :
    Calls Tryz.prog 62 #[.pointer (some ⟨b, 0, none⟩), .string s] w fun e w' => e = .returned (.tuple #[.int .i64 s.size, .nilIface]) ∧ ∃ v',
      w'.heap[b]? = some (.cells #[.pointer (some ⟨b, 0, none⟩), v'] 107 (0, 0)) ∧ w'.ownsRow base 5 1 v' (bs ++ Lib.strCells s).length (bs ++ Lib.strCells s) ∧ (v' = .slice none 0 0 → v = .slice none 0 0 ∧ s.size = 0) ∧ ButS (fun k => k = b ∨ v.ownBlock = some k) w w' := by
  obtain ⟨i0, hi, hz0, hz1, hz2⟩ := info_parts infoByte
  have hne : v.ownBlock ≠ some b := Lib.ownBlock_ne hown hbk (by decide)
  go_enter Tryz.func62, Tryz.ntmps62
  go_wp2_with fail
  refine (check_two b p v _ hbk hp).mono ?_
  rintro e w1 ⟨rfl, h1, hb1⟩
  have hown1 : w1.ownsRow base 5 1 v bs.length bs := own_move hown fun k hk => hb1.block k (hown.lt k hk).2 fun e => hne (by rw [hk, e])
  clear hbk hown
  have c0 : w1.cell? ⟨b, 0, none⟩ = some (.pointer (some ⟨b, 0, none⟩)) := by rw [Lib.cell_of_heap h1]; rfl
  have c1 : w1.cell? ⟨b, 1, none⟩ = some v := by rw [Lib.cell_of_heap h1]; rfl
  go_wp2_with (at_builtin; refine Lib.wpList_append_own_string _ rfl _ _ 105 9 rfl base 5 i0 Tryz.underlying105 Tryz.underlying9 hi hz0 hz1 hz2 _ _ _ rfl hown1 s rfl ?c3 ?c4 ?c5 ?_)
  case c3 => unfold maxLen; omega
  case c4 => omega
  case c5 => have := hb1.size; omega
  intro v' w2 hown' hgrow hnil
  have hlt : b < w1.heap.size := heap_lt h1
  have hb2 : w2.heap[b]? = some (.cells #[.pointer (some ⟨b, 0, none⟩), v] 107 (0, 0)) := by
    rw [hgrow.block b hlt (fun e => hne e.symm)]
    exact h1
  have d0 : w2.cell? ⟨b, 0, none⟩ = some (.pointer (some ⟨b, 0, none⟩)) := by rw [Lib.cell_of_heap hb2]; rfl
  have d1 : w2.cell? ⟨b, 1, none⟩ = some v := by rw [Lib.cell_of_heap hb2]; rfl
  have f1 : w2.frozen? ⟨b, 1, none⟩ = false := Lib.frozen_of_heap hb2 1
  have hne' : v'.ownBlock ≠ some b := Lib.ownBlock_ne hown' hb2 (by decide)
  obtain ⟨ao, n', cap, rfl⟩ : ∃ ao n' cap, v' = .slice ao n' cap := by
    rcases hown'.2 with ⟨hv, _⟩ | ⟨g, cap, cur, hv, _⟩
    · exact ⟨_, _, _, hv⟩
    · exact ⟨_, _, _, hv⟩
  go_wp2
  go_ret2
  refine ⟨rfl, _, ?_, ?_, (fun h => ⟨(hnil.1 h).1, by rw [(hnil.1 h).2]; rfl⟩), ?_⟩
  · simp [World.setCell, Array.getElem?_modify, hb2]
  · have hl : (bs ++ Lib.strCells s).length = bs.length + s.size := by simp [Lib.strCells_length]
    rw [hl]
    exact own_move hown' fun k hk => heap_setCell_other w2 ⟨b, 1, none⟩ k _ (fun e => hne' (by rw [hk, e]))
  · exact (hb1.mono (fun k _ e => Or.inl e)).trans (((ButS.grown hgrow).mono (fun k _ e => Or.inr e)).trans ((ButS.setCell b 1 _).mono (fun k _ e => Or.inl e)))

theorem cellsByte : Tryz.prog.cellsOf 5 = 1 := by kernel_rfl
theorem ButS.freeze {w : World} (g n : Nat) : ButS (fun k => k = g) w (w.freeze ⟨g, 0, none⟩ n) := by
  unfold World.freeze
  split
  · exact ButS.refl _ _
  · exact ⟨rfl, rfl, rfl, by simp, fun k hk hn => by
      simp only [Array.getElem?_modify]
      rw [if_neg (fun e => hn e.symm)]⟩
set_option maxHeartbeats 1000000 in
set_option maxRecDepth 100000 in
theorem str_two (b base : Nat) (p v : Value) (l : List UInt8) (w : World) (hbk : w.heap[b]? = some (.cells #[p, v] 107 (0, 0))) (hown : w.ownsRow base 5 1 v l.length (Lib.byteCells l)) (hn : l = [] → v = .slice none 0 0) :
    Calls Tryz.prog 63 #[.pointer (some ⟨b, 0, none⟩)] w fun e w' => e = .returned (.string ⟨l.toArray⟩) ∧ ButS (fun k => v.ownBlock = some k) w w' := by
  by_cases h0 : l = []
  · obtain rfl := hn h0
    subst h0
    refine (Any.Builder_String_nil Tryz.lays169 Tryz.Builder_Extra_169 w.heap.size b p w hbk).mono ?_
    rintro e w' ⟨rfl, h⟩
    exact ⟨rfl, ButS.of_ext h⟩
  have hl0 : l.length ≠ 0 := by simpa using h0
  obtain ⟨g, cap, cur, rfl, hbg, hg, hnc, hcm, hcs, htake⟩ : ∃ g cap cur, v = .slice (some ⟨g, 0, none⟩) l.length cap ∧ base ≤ g ∧ w.heap[g]? = some (.cells cur 5 (0, 0)) ∧ l.length ≤ cap ∧ cap ≤ maxLen ∧ cur.size = cap * 1 ∧ cur.toList.take (l.length * 1) = Lib.byteCells l := by
    rcases hown.2 with ⟨_, hz⟩ | ⟨g, cap, cur, hv, r⟩
    · exact absurd hz hl0
    · exact ⟨g, cap, cur, hv, r⟩
  have c1 : w.drew.cell? ⟨b, 1, none⟩ = some (.slice (some ⟨g, 0, none⟩) l.length cap) := by
    have : w.drew.heap[b]? = some (.cells #[p, .slice (some ⟨g, 0, none⟩) l.length cap] 107 (0, 0)) := hbk
    rw [Lib.cell_of_heap this]; rfl
  have hSD : (Builtin.unsafeSliceData_ #[105] 145 #[.slice (some ⟨g, 0, none⟩) l.length cap]).run Tryz.prog w.drew = .ok (.pointer (some ⟨g, 0, none⟩)) w.drew :=
    Lib.run_unsafeSliceData_row _ _ _ _ _ _ (by omega)
  have hUS : (Builtin.unsafeString_ #[145, 3] 9 #[.pointer (some ⟨g, 0, none⟩), .int .i64 l.length]).run Tryz.prog w.drew = .ok (.string ⟨l.toArray⟩) (w.drew.freeze ⟨g, 0, none⟩ l.length) := by
    refine Lib.run_unsafeString_row w.drew 145 3 9 5 Tryz.underlying145 cellsByte g cur.size (by have hg' : w.drew.heap[g]? = some (.cells cur 5 (0, 0)) := hg; simp [World.shape?, hg']) l h0 (by omega) (by unfold maxLen at hcm; omega) ?_
    intro j x hx
    have := hown.cells (g := g) rfl j (.int .u8 x.toNat) (by simp [Lib.byteCells, hx])
    exact this
  have hB : ButS (fun k => Value.ownBlock (.slice (some ⟨g, 0, none⟩) l.length cap) = some k) w (w.drew.freeze ⟨g, 0, none⟩ l.length) := by
    have h1 : ButS (fun k => Value.ownBlock (.slice (some ⟨g, 0, none⟩) l.length cap) = some k) w w.drew := ⟨rfl, rfl, rfl, Nat.le_refl _, fun _ _ _ => rfl⟩
    exact h1.trans ((ButS.freeze g _).mono fun k _ e => by subst e; rfl)
  go_enter Tryz.func63, Tryz.ntmps63
  go_wp2
  go_region
  all_goals (go_wp2; go_ret; exact ⟨rfl, hB⟩)

end Go.Proofs.YthoicieckodneaaGreatDoor.Build
