/- A strings.Builder of the call's own: its writers. -/
import Derived.Test.YtbhmmodphjmlmaaAcc
import Derived.Test.YtbhmmodphjmlmaaShelf
import Derived.Test.YtbhmmodphjmlmaaSmall
namespace Go.Proofs.Ytbhmmodphjmlmaa.Build
open Go.RowKit Small
set_option linter.unusedVariables false
set_option linter.unusedSimpArgs false

theorem sizeBuilder : (Try.prog.info? 90).map (fun i => i.size) = some 2 := by kernel_rfl
theorem liesBuilder : liesAt Try.prog Try.prog.depth 90 (2 / Try.prog.cellsOf 90) 0 90 1 = true := by kernel_rfl

abbrev IsB (B b : Nat) (l : List UInt8) (w : World) : Prop := Lib.IsBuilder 90 5 B b (Lib.byteCells l) w
abbrev Used (B b : Nat) (bs : List Value) (w : World) : Prop := Lib.BuilderAt 90 5 B b (.pointer (some ⟨b, 0, none⟩)) bs w

set_option maxHeartbeats 1000000 in
set_option maxRecDepth 100000 in
theorem check_used (b : Nat) (w : World) (h0 : w.cell? ⟨b, 0, none⟩ = some (.pointer (some ⟨b, 0, none⟩))) :
    Calls Try.prog 77 #[.pointer (some ⟨b, 0, none⟩)] w fun e w' => e = .returned (.tuple #[]) ∧ w' = w := by
  obtain ⟨j, hj, _⟩ := Option.map_eq_some_iff.1 sizeBuilder
  go_enter Try.func77, Try.ntmps77
  go_wp2
  rw [Lib.run_neq_ptr_same w _ Try.underlying88 hj]
  go_wp2
  go_end0
  exact ⟨rfl, rfl⟩

set_option maxHeartbeats 1000000 in
set_option maxRecDepth 100000 in
theorem check_fresh (b : Nat) (w : World) (h0 : w.cell? ⟨b, 0, none⟩ = some (.pointer none)) (hsh : w.shape? b = some (90, 2)) (hfz : w.frozen? ⟨b, 0, none⟩ = false) :
    Calls Try.prog 77 #[.pointer (some ⟨b, 0, none⟩)] w fun e w' => e = .returned (.tuple #[]) ∧ w' = w.setCell ⟨b, 0, none⟩ (.pointer (some ⟨b, 0, none⟩)) := by
  obtain ⟨j, hj, hjs⟩ := Option.map_eq_some_iff.1 sizeBuilder
  go_enter Try.func77, Try.ntmps77
  go_wp2
  rw [Lib.run_to_unsafe w ⟨b, 0, none⟩ Try.underlying88 Try.underlying117 hj (by rw [hjs]; decide) hsh (Nat.zero_lt_succ 1)]
  simp only [Result.andThen]
  rw [Oper.upon_value]
  go_wp2
  rw [run_callFunc_extern Try.func91 (by kernel_rfl) (by kernel_rfl) (by kernel_rfl) (e := Extern.AbiNoEscape.same) (by kernel_rfl)]
  rw [Lib.run_noEscape]
  simp only [Result.andThen]
  rw [Oper.upon_value]
  go_wp2
  rw [Lib.run_from_unsafe w ⟨b, 0, none⟩ Try.underlying117 Try.underlying88 hj hsh liesBuilder]
  simp only [Result.andThen]
  rw [Oper.upon_value]
  go_wp2
  go_end0
  exact ⟨rfl, rfl⟩

theorem check_any (B b : Nat) (bs : List Value) (w : World) (h : Lib.IsBuilder 90 5 B b bs w) :
    Calls Try.prog 77 #[.pointer (some ⟨b, 0, none⟩)] w fun e w' => e = .returned (.tuple #[]) ∧ (Used B b bs w' ∧ Below B w w') := by
  rcases h with h | h
  · refine (check_fresh b w h.cell0 h.shape h.frozen0).mono ?_
    rintro e w' ⟨rfl, rfl⟩
    exact ⟨rfl, h.used _, (Below.refl B w).setCell (p := ⟨b, 0, none⟩) h.1 _⟩
  · refine (check_used b w h.cell0).mono ?_
    rintro e w' ⟨rfl, rfl⟩
    exact ⟨rfl, h, Below.refl B _⟩

set_option maxHeartbeats 1000000 in
set_option maxRecDepth 100000 in
theorem write_rune (B b : Nat) (bs : List Value) (r : Int) (w : World) (h : Lib.IsBuilder 90 5 B b bs w) (hr0 : -2147483648 ≤ r) (hr1 : r ≤ 2147483647) (hlen : bs.length + 4 ≤ 140737488355328) (hBw : B ≤ w.heap.size) :
    Calls Try.prog 68 #[.pointer (some ⟨b, 0, none⟩), .int .i32 r] w fun e w' => e = .returned (.tuple #[.int .i64 (Lib.runeCells r).length, .nilIface]) ∧ (Used B b (bs ++ Lib.runeCells r) w' ∧ Below B w w') := by
  have hk4 := Lib.runeCells_le r
  go_enter Try.func68, Try.ntmps68
  go_wp2_with fail
  refine (check_any B b bs _ h).mono ?_
  rintro e w1 ⟨rfl, h1, hb1⟩
  obtain ⟨hB, v, hbk, hown, hne⟩ := h1
  obtain ⟨ao, cap, rfl⟩ := own_form hown
  have c0 : w1.cell? ⟨b, 0, none⟩ = some (.pointer (some ⟨b, 0, none⟩)) := by rw [Lib.cell_of_heap hbk]; rfl
  have c1 : w1.cell? ⟨b, 1, none⟩ = some (.slice ao bs.length cap) := by rw [Lib.cell_of_heap hbk]; rfl
  go_wp2_with fail
  refine (Try.utf8_AppendRune_plain B _ bs.length bs r hr0 hr1 _ hown hlen (by have := hb1.size; omega)).mono ?_
  rintro e w2 ⟨v', rfl, hown', o, hgrow⟩
  have hlt : b < w1.heap.size := by
    rcases Nat.lt_or_ge b w1.heap.size with h' | h'
    · exact h'
    · simp [Array.getElem?_eq_none h'] at hbk
  have hb2 : w2.heap[b]? = some (.cells #[.pointer (some ⟨b, 0, none⟩), .slice ao bs.length cap] 90 (0, 0)) := by
    rw [hgrow.block b (by simp; omega) (fun e => hne e.symm), Lib.alloc_old w1 _ b hlt]
    exact hbk
  have d0 : w2.cell? ⟨b, 0, none⟩ = some (.pointer (some ⟨b, 0, none⟩)) := by rw [Lib.cell_of_heap hb2]; rfl
  have d1 : w2.cell? ⟨b, 1, none⟩ = some (.slice ao bs.length cap) := by rw [Lib.cell_of_heap hb2]; rfl
  have f1 : w2.frozen? ⟨b, 1, none⟩ = false := Lib.frozen_of_heap hb2 1
  obtain ⟨g, cap', rfl⟩ : ∃ g cap', v' = .slice (some ⟨g, 0, none⟩) (bs.length + (Lib.runeCells r).length) cap' := by
    rcases hown'.2 with ⟨_, h0⟩ | ⟨g, cap', cur, hv, _⟩
    · omega
    · exact ⟨g, cap', hv⟩
  go_wp2
  go_ret2
  refine ⟨?_, ?_, ?_⟩
  · have e : ((bs.length : Int) + ((Lib.runeCells r).length : Int) - (bs.length : Int)) = ((Lib.runeCells r).length : Int) := by omega
    simp [e]
  · exact Lib.BuilderAt.put (T := 90) (e := 5) hB hb2 (bs' := bs ++ Lib.runeCells r) (by simpa using hown') (by decide)
  · exact ((hb1.alloc (by have := hb1.size; omega) _).grown hgrow (by have := hb1.size; simp; omega) (fun k hk => (hown.lt k hk).1)).setCell (p := ⟨b, 1, none⟩) hB _

/-- characters' bytes -/
def joinL (xs : List Int) : List UInt8 := xs.flatMap fun c => Lib.encodeRune (if Utf.mayC c then c else 65533)
theorem joinL_le (xs : List Int) : (joinL xs).length ≤ 4 * xs.length := by
  induction xs with
  | nil => simp [joinL]
  | cons c xs ih =>
    have := (Lib.encodeRuneZ_length (if Utf.mayC c then c else 65533)).2
    simp only [joinL, List.flatMap_cons, List.length_append, List.length_cons] at ih ⊢
    simp only [Lib.encodeRune, List.length_map] at ih ⊢
    omega
theorem joinL_snoc (xs : List Int) (k : Nat) (hk : k < xs.length) : joinL (xs.take (k + 1)) = joinL (xs.take k) ++ Lib.encodeRune (if Utf.mayC xs[k] then xs[k] else 65533) := by
  rw [List.take_succ_eq_append_getElem hk]; simp only [joinL, List.flatMap_append, List.flatMap_cons, List.flatMap_nil, List.append_nil]

set_option maxHeartbeats 1000000 in
set_option maxRecDepth 100000 in
theorem utf_join (A : Option Addr) (c : Nat) (xs : List Int) (w : World) (hr : Row w A (xs.map (Value.int .i64))) (hl : xs.length ≤ 10000000000000) :
    Calls Try.prog 54 #[.slice A xs.length c] w fun e w' => e = .returned (.string ⟨(joinL xs).toArray⟩) ∧ Ext w w' := by
  go_enter Try.func54, Try.ntmps54
  go_wp2
  go_loopw [5, 8] (fun _ i wr => ∃ k : Nat, k ≤ xs.length ∧ i = .int .i64 k ∧ IsB w.heap.size w.heap.size (joinL (xs.take k)) wr ∧ Below w.heap.size w wr) (fun _ i _ => xs.length - (intOf i).toNat)
  case atStart => exact ⟨0, Nat.zero_le _, rfl, Lib.fresh_isBuilder _ _ _, (Below.refl _ _).alloc (Nat.le_refl _) _⟩
  case round =>
    obtain ⟨k, hk, rfl, hB, hbl⟩ := hrel
    by_cases hlt : k < xs.length
    · obtain ⟨b, off, rfl, hc⟩ := row_int (hr.below hbl (Nat.le_refl _)) hlt
      have HT := Lib.hid (joinL_snoc xs k hlt)
      have hle := joinL_le (xs.take k)
      rw [List.length_take_of_le hk] at hle
      generalize xs[k] = x at *
      generalize joinL (xs.take k) = l at *
      cases hm : Utf.mayC x
      · have HM := Lib.hid hm
        clear hm
        go_wp2_with fail
        refine (Utf.utf_may _ _).mono ?_; rintro e w' ⟨rfl, rfl⟩; rw [HM.out]
        go_wp2_with fail
        refine (write_rune _ _ _ _ _ hB (by decide) (by decide) (by simp [Lib.byteCells]; omega) (by have := hbl.size; omega)).mono ?_
        rintro e w2 ⟨rfl, hu, hb2⟩
        go_wp2
        go_roundw
        case rel => exact ⟨k + 1, by omega, by go_num, .inr (by rw [HT.out, HM.out, Lib.byteCells_append, Lib.byteCells_encodeRune]; exact hu), hbl.trans hb2⟩
        case measure => simp [intOf]; omega
      · have hx : 0 ≤ x ∧ x ≤ 1114111 := by unfold Utf.mayC at hm; simp at hm; omega
        have HM := Lib.hid hm
        clear hm
        obtain ⟨hx0, hx1⟩ := hx
        go_wp2_with fail
        refine (Utf.utf_may _ _).mono ?_; rintro e w' ⟨rfl, rfl⟩; rw [HM.out]
        go_wp2_with fail
        refine (write_rune _ _ _ _ _ hB (by omega) (by omega) (by simp [Lib.byteCells]; omega) (by have := hbl.size; omega)).mono ?_
        rintro e w2 ⟨rfl, hu, hb2⟩
        go_wp2
        go_roundw
        case rel => exact ⟨k + 1, by omega, by go_num, .inr (by rw [HT.out, HM.out, Lib.byteCells_append, Lib.byteCells_encodeRune]; exact hu), hbl.trans hb2⟩
        case measure => simp [intOf]; omega
    · have e : k = xs.length := by omega
      subst e
      rw [List.take_length] at hB
      go_wp2_with fail
      refine (Try.Builder_String_any _ _ _ _ hB (by have := hbl.size; omega)).mono ?_
      rintro e w2 ⟨rfl, hb2⟩
      go_wp2
      go_ret
      exact ⟨rfl, hbl.trans hb2⟩
end Go.Proofs.Ytbhmmodphjmlmaa.Build
