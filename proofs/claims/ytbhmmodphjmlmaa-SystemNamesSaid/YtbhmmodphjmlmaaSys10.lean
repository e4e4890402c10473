/- Walk: all systems' names, sorted. -/
import Derived.Test.YtbhmmodphjmlmaaSys8
import Derived.Test.YtbhmmodphjmlmaaShelf
import Derived.Sort.OwnSorted
import Derived.Sort.KeysCollected
import Derived.Maps.RangeRun
namespace Go.Proofs.Ytbhmmodphjmlmaa.Sys
open Go.RowKit Utf Small Build All Dec
set_option linter.unusedVariables false
set_option linter.unusedSimpArgs false

/-- the library's sort of a slice of the call's own -/
theorem sort_acc {w0 w : World} {A : Option Addr} {c n : Nat} {ss : List (List UInt8)} (h : Acc 9 1 w0 w A c n (ss.map encStr)) (h1 : 1 ≤ n) (h9 : n ≤ 1000000) :
    Calls Try.prog 63 #[.slice A n c] w fun e w' => e = .returned (.tuple #[]) ∧ Acc 9 1 w0 w' A c n ((ss.mergeSort fun x y => decide (x ≤ y)).map encStr) := by
  have hx := h.ext
  have hl : ss.length = n := by have := h.own.1; simpa using this
  subst hl
  rcases h.own.2 with ⟨hv, hn⟩ | ⟨g, cap, cur, hv, hbase, hb, h2, h3, h4, h5⟩
  · omega
  · injection hv with hA _ hc
    subst hA; subst hc
    refine (Try.slices_Sort_string g 0 c ss w (holds_of_block hb (by simpa using h5)) (Array.getElem?_eq_some_iff.1 hb).1 (by omega)).mono ?_
    rintro e w' ⟨rfl, m, os, rfl⟩
    exact ⟨rfl, ownsRow_sorted (by simp) hbase hb h2 h3 h4, hx.grown (grownBy_sorted _) hx.size (fun k hk => by injection hk with hk; omega)⟩

def bytesAt (k : Nat) : List UInt8 := (nameAt k).data.toList
theorem enc_bytes (k : Nat) : encStr (bytesAt k) = .string (nameAt k) := by simp [encStr, bytesAt]
theorem sorted_names {l : List Nat} (h : l.Perm (List.range 20)) : ((l.map bytesAt).mergeSort fun x y => decide (x ≤ y)).map encStr = names.map Value.string := by
  have e1 : (l.map bytesAt).mergeSort (fun x y => decide (x ≤ y)) = ((List.range 20).map bytesAt).mergeSort (fun x y => decide (x ≤ y)) := mergeSort_of_perm (h.map _)
  have e2 : ((List.range 20).map bytesAt).mergeSort (fun x y => decide (x ≤ y)) = (List.range 20).map bytesAt := List.mergeSort_of_pairwise (by decide +kernel)
  rw [e1, e2]
  rfl
theorem perm_range {l : List Nat} (hn : l.Nodup) (h : ∀ k, k ∈ l ↔ k < 20) : l.Perm (List.range 20) :=
  (List.perm_ext_iff_of_nodup hn List.nodup_range).2 fun k => by rw [h k, List.mem_range]

theorem iter_at {w : World} {r bm since cl : Nat} {seen : Array Nat} (h : w.heap[r]? = some (.mapIter (some bm) since seen cl)) : w.iterSeen r = seen := by
  unfold World.iterSeen; rw [h]

/-- a step of the range over the noughts -/
theorem next_zes (w : World) (r bm : Nat) (seen : Array Nat) (hr : w.heap[r]? = some (.mapIter (some bm) 20 seen 20)) (hb : w.heap[bm]? = some (.map (zes 20) 20)) (hne : r ≠ bm) :
    ((leftOf (zes 20) seen).size = 0 ∧ ∀ ty, (Instr.next (.pointer (some ⟨r, 0, none⟩)) false ty).run Try.prog w = .ok (.tuple #[.bool false]) w) ∨
    ∃ k, k < 20 ∧ ent k ∈ (leftOf (zes 20) seen).toList ∧ ∃ w' : World, (∀ ty, (Instr.next (.pointer (some ⟨r, 0, none⟩)) false ty).run Try.prog w = .ok (.tuple #[.bool true, .string (nameAt k), .int .i64 (zerosL.getD k 0)]) w') ∧
      (Instr.entry (.pointer (some ⟨r, 0, none⟩))).run Try.prog w' = .ok (.tuple #[.string (nameAt k), .int .i64 (zerosL.getD k 0)]) w' ∧
      w'.heap[r]? = some (.mapIter (some bm) 20 (seen.push k) 20) ∧ w.grownBy w' (some r) := by
  rcases run_next_at (P := Try.prog) w 0 r bm 20 20 seen (zes 20) 20 hr hb zes_born (Nat.le_refl _) with ⟨h0, hrun⟩ | ⟨e, he, w1, hw1, hrun⟩
  · exact .inl ⟨h0, fun _ => hrun⟩
  · obtain ⟨hmem, hns⟩ := mem_left he
    obtain ⟨k, hk, rfl⟩ := mem_zes hmem
    have hlt : r < w1.heap.size := by
      have := (Array.getElem?_eq_some_iff.1 hr).1
      rcases hw1 with rfl | rfl <;> exact this
    have hb1 : w1.heap[bm]? = some (.map (zes 20) 20) := by rcases hw1 with rfl | rfl <;> exact hb
    have hr2 : (Go.ChangeMaps.setBlock w1 r (.mapIter (some bm) 20 (seen.push k) 20)).heap[r]? = some (.mapIter (some bm) 20 (seen.push k) 20) := by
      simp [Go.ChangeMaps.setBlock, hlt]
    have hb2 : (Go.ChangeMaps.setBlock w1 r (.mapIter (some bm) 20 (seen.push k) 20)).heap[bm]? = some (.map (zes 20) 20) := by
      simp [Go.ChangeMaps.setBlock, hne, hb1]
    refine .inr ⟨k, hk, he, _, fun _ => hrun, run_entry_at (P := Try.prog) _ r bm 20 seen (zes 20) 20 (ent k) hr2 hb2 hmem zes_nodup, hr2, ?_⟩
    have hp : w1.os = w.os ∧ w1.tape = w.tape ∧ w1.output = w.output ∧ w1.heap = w.heap := by
      rcases hw1 with h | h
      · rw [h]; exact ⟨rfl, rfl, rfl, rfl⟩
      · rw [h]; exact ⟨rfl, rfl, rfl, rfl⟩
    refine ⟨hp.1, hp.2.1, hp.2.2.1, ?_, fun i hi hne => ?_⟩
    · show w.heap.size ≤ (w1.heap.setIfInBounds r _).size
      rw [hp.2.2.2]; simp
    · have : r ≠ i := fun e => hne (by rw [e])
      show (w1.heap.setIfInBounds r _)[i]? = w.heap[i]?
      rw [hp.2.2.2]; simp [this]

theorem map_no_cells (es : Array MapEntry) (n : Nat) : ∀ cs t f, Obj.map es n ≠ .cells cs t f := fun _ _ _ h => by cases h
theorem miter_no_cells (b : Option Nat) (s : Nat) (seen : Array Nat) (n : Nat) : ∀ cs t f, Obj.mapIter b s seen n ≠ .cells cs t f := fun _ _ _ h => by cases h
theorem seen_snoc (seen : Array Nat) (k : Nat) : ((seen.push k).toList.map bytesAt).map encStr = (seen.toList.map bytesAt).map encStr ++ [.string (nameAt k)] := by
  simp [enc_bytes, encStr, bytesAt]

set_option maxHeartbeats 1000000 in
set_option maxRecDepth 100000 in
theorem sys_names (W : World) : Calls Try.prog 46 #[] W fun e w' => ∃ A c, e = .returned (.slice A 20 c) ∧ Row w' A (names.map Value.string) ∧ Ext W w' := by
  go_enter Try.func46, Try.ntmps46
  go_wp2_with fail
  refine (zeros_any _).mono ?_
  rintro e w ⟨bm, rfl, hb, hxt⟩
  have hbl : bm < w.heap.size := (Array.getElem?_eq_some_iff.1 hb).1
  have hrg := run_range_map (P := Try.prog) w 70 9 3 bm (zes 20) 20 Try.underlying70 hb
  go_wp2
  go_loopw [1] (fun v wr => ∃ (seen : Array Nat) (A : Option Addr) (c : Nat), v = .slice A seen.size c ∧ wr.heap[w.heap.size]? = some (.mapIter (some bm) 20 seen 20) ∧ Acc 9 1 w wr A c seen.size ((seen.toList.map bytesAt).map encStr) ∧ Hid (seen.toList.Nodup) ∧ Hid (∀ k ∈ seen.toList, k < 20) ∧ Hid (seen.size + (leftOf (zes 20) seen).size ≤ 20)) (fun _ wr => (leftOf (zes 20) (wr.iterSeen w.heap.size)).size)
  case atStart => exact ⟨#[], none, 0, rfl, heap_alloc_new w _, (Acc.start _ _ _).step ((Below.refl _ _).alloc (Nat.le_refl _) _), Lib.hid (by simp), Lib.hid (by simp), Lib.hid (by decide +kernel)⟩
  case round =>
    obtain ⟨seen, A, c, rfl, hr, hacc, HN, HB, HS⟩ := hrel
    have hb' : wr.heap[bm]? = some (.map (zes 20) 20) := (hacc.ext.block bm hbl).trans hb
    rcases next_zes wr w.heap.size bm seen hr hb' (by omega) with ⟨h0, hnx⟩ | ⟨k, hk, he, w2, hnx, hen, hr2, hg2⟩
    · have hall := all_seen (zes 20) seen h0
      have hmem : ∀ k, k ∈ seen.toList ↔ k < 20 := fun k => ⟨HB.out k, fun hk => by have := hall _ (ent_mem hk); simpa [ent] using this⟩
      have hperm := perm_range HN.out hmem
      have hsz : seen.size = 20 := by have := hperm.length_eq; simpa using this
      have HP := Lib.hid (sorted_names hperm)
      rw [hsz] at hacc
      clear hall hmem hperm h0
      rw [hsz]
      go_wp2_with fail
      refine (sort_acc hacc (by decide) (by decide)).mono ?_
      rintro e w9 ⟨rfl, hacc9⟩
      have hrow := hacc9.row
      rw [HP.out] at hrow
      go_wp2
      go_ret
      exact ⟨A, c, rfl, hrow, hacc9.ext_of hxt⟩
    · have hne := hacc.ne_obj hr (miter_no_cells _ _ _ _)
      have hacc2 := hacc.turn hg2 hne (Nat.le_refl _)
      have HN2 := Lib.hid (hacc2.ne_obj hr2 (miter_no_cells _ _ _ _))
      have HL := Lib.hid (left_shrinks (zes 20) seen (ent k) he)
      have HNS := Lib.hid (mem_left he).2
      have HSN := Lib.hid (seen_snoc seen k)
      have hs20 : seen.size ≤ 20 := by have := HS.out; omega
      have HE0 := Lib.hid (iter_at hr)
      have HPS : Hid ((seen.push k).size = seen.size + 1) := Lib.hid (by simp)
      generalize nameAt k = nm at *
      clear hr hb' he hacc hne
      go_wp2_with (at_builtin; refine wp_app ei_str rfl _ _ rfl w _ A c seen.size _ rfl hacc2 [.string nm] 1 1 rfl rfl (by simp [Value.oneCell']) (by omega) (by unfold maxLen; omega) ?_; intro A1 c1 w3 hacc3 _ hg3; clear hacc2)
      have hr3 := grown_obj hg3 hr2 HN2.out
      have HE1 := Lib.hid (iter_at hr3)
      go_roundw
      case rel =>
        refine ⟨seen.push k, A1, c1, by rw [HPS.out], hr3, by rw [HPS.out, HSN.out]; exact hacc3, Lib.hid ?_, Lib.hid ?_, Lib.hid ?_⟩
        · rw [Array.toList_push, List.nodup_append]
          refine ⟨HN.out, by simp, fun a ha b hb e => ?_⟩
          obtain rfl : b = k := by simpa using hb
          subst e
          have h1 : seen.contains a = false := HNS.out
          have h2 : seen.contains a = true := by simpa using ha
          rw [h1] at h2; cases h2
        · intro x hx
          rw [Array.toList_push, List.mem_append] at hx
          rcases hx with h | h
          · exact HB.out x h
          · obtain rfl : x = k := by simpa using h
            exact hk
        · have h1 := HS.out
          have h2 : (leftOf (zes 20) (seen.push k)).size < (leftOf (zes 20) seen).size := HL.out
          rw [HPS.out]; omega
      case measure => rw [HE1.out, HE0.out]; exact HL.out
end Go.Proofs.Ytbhmmodphjmlmaa.Sys
