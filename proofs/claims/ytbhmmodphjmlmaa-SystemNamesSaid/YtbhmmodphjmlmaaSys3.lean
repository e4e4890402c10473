/- Walks: systems of digits, the program's side, and the plain laws. -/
import Derived.Test.YtbhmmodphjmlmaaSys2
import Derived.Laws.IdiomRangeMap
namespace Go.Proofs.Ytbhmmodphjmlmaa.Sys
open Go.RowKit Utf Small Build
set_option linter.unusedVariables false
set_option linter.unusedSimpArgs false

def digE (s : ByteArray) (d : Int) : Int := if zeroZ s < 0 then 7 else if d < 0 ∨ 10 ≤ d then 3 else 0
def digB (s : ByteArray) (d : Int) : List UInt8 := if digE s d = 0 then encB (zeroZ s + d) else []
theorem noneE_cases (s : ByteArray) : (zeroZ s = -1 ∧ noneE s = 7 ∧ max (zeroZ s) 0 = 0) ∨ (0 ≤ zeroZ s ∧ zeroZ s ≤ 120812 ∧ noneE s = 0 ∧ max (zeroZ s) 0 = zeroZ s) := by
  have := zeroZ_bd s
  unfold noneE
  by_cases h : 0 ≤ zeroZ s
  · exact .inr ⟨h, this.2, if_pos h, by omega⟩
  · exact .inl ⟨by omega, if_neg h, by omega⟩

set_option maxHeartbeats 1000000 in
theorem sys_digit (s : ByteArray) (d : Int) (w : World) : Calls Try.prog 25 #[.string s, .int .i64 d] w fun e w' => e = .returned (.tuple #[.string ⟨(digB s d).toArray⟩, .int .i64 (digE s d)]) ∧ Ext w w' := by
  rcases noneE_cases s with ⟨hz, hn, hm⟩ | ⟨hz, hz2, hn, hm⟩
  · have HF : Hid (digE s d = 7 ∧ digB s d = []) := Lib.hid (by
      have : digE s d = 7 := by unfold digE; rw [if_pos (by omega)]
      exact ⟨this, by unfold digB; rw [this]; rfl⟩)
    have HZ := sys_zero s
    rw [hn, hm] at HZ
    have HZ' := Lib.hid HZ
    clear HZ hz hn hm
    go_enter Try.func25, Try.ntmps25
    go_wp2_with fail
    refine (HZ'.out _).mono ?_
    rintro e w1 ⟨rfl, hx⟩
    go_wp2
    go_ret2
    exact ⟨by rw [HF.out.1, HF.out.2]; rfl, hx⟩
  · have HZ := sys_zero s
    rw [hn, hm] at HZ
    have HZ' := Lib.hid HZ
    have HE : Hid (digE s d = if d < 0 ∨ 10 ≤ d then 3 else 0) := Lib.hid (by unfold digE; rw [if_neg (by omega)])
    have HB : Hid (digB s d = if digE s d = 0 then encB (zeroZ s + d) else []) := Lib.hid rfl
    clear HZ hn hm
    generalize zeroZ s = z at *
    by_cases h0 : d < 0
    · have HE' : Hid (digE s d = 3) := Lib.hid (by rw [HE.out, if_pos (by omega)])
      go_enter Try.func25, Try.ntmps25
      go_wp2_with fail
      refine (HZ'.out _).mono ?_
      rintro e w1 ⟨rfl, hx⟩
      go_wp2
      go_ret2
      exact ⟨by rw [HB.out, HE'.out]; rfl, hx⟩
    by_cases h1 : 10 ≤ d
    · have HE' : Hid (digE s d = 3) := Lib.hid (by rw [HE.out, if_pos (by omega)])
      go_enter Try.func25, Try.ntmps25
      go_wp2_with fail
      refine (HZ'.out _).mono ?_
      rintro e w1 ⟨rfl, hx⟩
      go_wp2
      go_ret2
      exact ⟨by rw [HB.out, HE'.out]; rfl, hx⟩
    · have HE' : Hid (digE s d = 0) := Lib.hid (by rw [HE.out, if_neg (by omega)])
      have h0' : 0 ≤ d := by omega
      have h1' : d < 10 := by omega
      clear h0 h1
      go_enter Try.func25, Try.ntmps25
      go_wp2_with fail
      refine (HZ'.out _).mono ?_
      rintro e w1 ⟨rfl, hx⟩
      go_wp2_with fail
      refine (utf_encode _ _).mono ?_
      rintro e w2 ⟨rfl, hx2⟩
      go_wp2
      go_ret2
      exact ⟨by rw [HB.out, HE'.out]; rfl, hx.trans hx2⟩

def valE (s : ByteArray) (c : Int) : Int := if zeroZ s < 0 then 7 else if c < zeroZ s ∨ zeroZ s + 10 ≤ c then 2 else 0
theorem valZ_in {z c : Int} (h0 : 0 ≤ z) (h1 : z ≤ c) (h2 : c < z + 10) : valZ z c = c - z := by unfold valZ; rw [if_neg (by omega)]
theorem valZ_out {z c : Int} (h : z < 0 ∨ c < z ∨ z + 10 ≤ c) : valZ z c = -1 := by unfold valZ; rw [if_pos (by omega)]
set_option maxHeartbeats 1000000 in
theorem sys_value (s : ByteArray) (c : Int) (w : World) : Calls Try.prog 27 #[.string s, .int .i64 c] w fun e w' => e = .returned (.tuple #[.int .i64 (max (valZ (zeroZ s) c) 0), .int .i64 (valE s c)]) ∧ Ext w w' := by
  rcases noneE_cases s with ⟨hz, hn, hm⟩ | ⟨hz, hz2, hn, hm⟩
  · have HF : Hid (valE s c = 7 ∧ max (valZ (zeroZ s) c) 0 = 0) := Lib.hid (by
      have : valE s c = 7 := by unfold valE; rw [if_pos (by omega)]
      exact ⟨this, by rw [valZ_out (by omega)]; omega⟩)
    have HZ := sys_zero s
    rw [hn, hm] at HZ
    have HZ' := Lib.hid HZ
    clear HZ hz hn hm
    go_enter Try.func27, Try.ntmps27
    go_wp2_with fail
    refine (HZ'.out _).mono ?_
    rintro e w1 ⟨rfl, hx⟩
    go_wp2
    go_ret2
    exact ⟨by rw [HF.out.1, HF.out.2]; rfl, hx⟩
  · have HZ := sys_zero s
    rw [hn, hm] at HZ
    have HZ' := Lib.hid HZ
    have HE : Hid (valE s c = if c < zeroZ s ∨ zeroZ s + 10 ≤ c then 2 else 0) := Lib.hid (by unfold valE; rw [if_neg (by omega)])
    clear HZ hn hm
    generalize hzz : zeroZ s = z at *
    have HZZ := Lib.hid hzz
    clear hzz
    by_cases h0 : c < z
    · have HE' : Hid (valE s c = 2) := Lib.hid (by rw [HE.out, if_pos (by omega)])
      have HV : Hid (max (valZ z c) 0 = 0) := Lib.hid (by rw [valZ_out (by omega)]; omega)
      go_enter Try.func27, Try.ntmps27
      go_wp2_with fail
      refine (HZ'.out _).mono ?_
      rintro e w1 ⟨rfl, hx⟩
      go_wp2
      go_ret2
      exact ⟨by rw [HE'.out, HV.out]; rfl, hx⟩
    by_cases h1 : z + 10 ≤ c
    · have HE' : Hid (valE s c = 2) := Lib.hid (by rw [HE.out, if_pos (by omega)])
      have HV : Hid (max (valZ z c) 0 = 0) := Lib.hid (by rw [valZ_out (by omega)]; omega)
      go_enter Try.func27, Try.ntmps27
      go_wp2_with fail
      refine (HZ'.out _).mono ?_
      rintro e w1 ⟨rfl, hx⟩
      go_wp2
      go_ret2
      exact ⟨by rw [HE'.out, HV.out]; rfl, hx⟩
    · have HE' : Hid (valE s c = 0) := Lib.hid (by rw [HE.out, if_neg (by omega)])
      have HV : Hid (max (valZ z c) 0 = c - z) := Lib.hid (by rw [valZ_in hz (by omega) (by omega)]; omega)
      have h0' : z ≤ c := by omega
      have h1' : c < z + 10 := by omega
      clear h0 h1
      go_enter Try.func27, Try.ntmps27
      go_wp2_with fail
      refine (HZ'.out _).mono ?_
      rintro e w1 ⟨rfl, hx⟩
      go_wp2
      go_ret2
      exact ⟨by rw [HE'.out, HV.out]; rfl, hx⟩

/-! ### Of -/
theorem zeroZ_nameAt : ∀ k : Fin 20, zeroZ (nameAt k.1) = zerosL.getD k.1 0 := by decide +kernel
theorem zeros_apart : ∀ i j : Fin 20, i = j ∨ zerosL.getD i.1 0 + 9 < zerosL.getD j.1 0 ∨ zerosL.getD j.1 0 + 9 < zerosL.getD i.1 0 := by decide +kernel
theorem of_hit (c : Int) (k : Nat) (hk : k < 20) (h0 : zerosL.getD k 0 ≤ c) (h1 : c < zerosL.getD k 0 + 10) : ofZ c = (nameAt k, c - zerosL.getD k 0) := by
  have hz : ∀ i : Nat, i < 20 → zeroZ (nameAt i) = zerosL.getD i 0 := fun i hi => zeroZ_nameAt ⟨i, hi⟩
  have hp := zerosL_pos ⟨k, hk⟩
  have hn : nameAt k = names[k]'hk := (names_at (show k < names.length from hk)).symm
  rw [hn]
  have hv : valZ (zeroZ (names[k]'hk)) c = c - zerosL.getD k 0 := by rw [← hn, hz k hk]; exact valZ_in hp h0 h1
  rw [← hv]
  refine ofZ_at c k hk ?_ (by unfold ofP; rw [hv]; exact decide_eq_true (by omega))
  rw [List.any_eq_false]
  intro x hx
  obtain ⟨i, hi, rfl⟩ := List.mem_take_iff_getElem.1 hx
  have hi20 : i < 20 := by omega
  have hx2 : names[i] = nameAt i := names_at (show i < names.length from hi20)
  rw [Bool.not_eq_true]
  refine (congrArg (ofP c) hx2).trans ?_
  unfold ofP
  rw [hz i hi20]
  rcases zeros_apart ⟨i, hi20⟩ ⟨k, hk⟩ with h | h | h
  · have : i = k := congrArg Fin.val h
    omega
  · have h' : zerosL.getD i 0 + 9 < zerosL.getD k 0 := h
    rw [valZ_out (by omega)]; decide
  · have h' : zerosL.getD k 0 + 9 < zerosL.getD i 0 := h
    rw [valZ_out (by omega)]; decide
theorem of_miss (c : Int) (h : ∀ k, k < 20 → ¬ (zerosL.getD k 0 ≤ c ∧ c < zerosL.getD k 0 + 10)) : ofZ c = (⟨#[]⟩, -1) := by
  refine ofZ_none c ?_
  rw [List.any_eq_false]
  intro x hx
  obtain ⟨i, hi, rfl⟩ := List.mem_iff_getElem.1 hx
  have hi20 : i < 20 := hi
  rw [names_at hi]
  unfold ofP
  rw [show zeroZ (nameAt i) = zerosL.getD i 0 from zeroZ_nameAt ⟨i, hi20⟩]
  have := h i hi20
  rw [valZ_out (by omega)]; decide

theorem mem_zes {e : MapEntry} (h : e ∈ (zes 20).toList) : ∃ k, k < 20 ∧ e = ent k := by
  have : (zes 20).toList = (List.range 20).map ent := rfl
  rw [this] at h
  obtain ⟨k, hk, rfl⟩ := List.mem_map.1 h
  exact ⟨k, by simpa using hk, rfl⟩
theorem ent_mem {k : Nat} (h : k < 20) : ent k ∈ (zes 20).toList := by
  have : (zes 20).toList = (List.range 20).map ent := rfl
  rw [this]
  exact List.mem_map.2 ⟨k, by simpa using h, rfl⟩
theorem zes_born : ∀ x ∈ (zes 20).toList, x.born < 20 := fun x hx => by
  obtain ⟨k, hk, rfl⟩ := mem_zes hx; exact hk
theorem zes_nodup : ((zes 20).toList.map (·.born)).Nodup := by
  have : (zes 20).toList.map (·.born) = List.range 20 := rfl
  rw [this]; exact List.nodup_range
theorem zeros_any (w : World) : Calls Try.prog 50 #[] w fun e w' => ∃ b, e = .returned (.map (some b)) ∧ w'.heap[b]? = some (.map (zes 20) 20) ∧ Ext w w' :=
  (sys_zeros w).mono fun e w' ⟨he, hw⟩ => ⟨_, he, by rw [hw]; exact heap_alloc_new w _, by rw [hw]; exact (Below.refl _ _).alloc (Nat.le_refl _) _⟩

/-- a step of the range over a map that nobody writes: the world is as it was, but for the iterator and at most a draw -/
theorem next_map (w : World) (ty : TypeId) (bm clock : Nat) (seen : Array Nat) (es : Array MapEntry) (hb : w.heap[bm]? = some (.map es clock)) (hold : ∀ x ∈ es.toList, x.born < clock) :
    ((leftOf es seen).size = 0 ∧ (Instr.next (.pointer (some ⟨w.heap.size, 0, none⟩)) false ty).run Try.prog (w.alloc (.mapIter (some bm) clock seen clock)) = .ok (.tuple #[.bool false]) (w.alloc (.mapIter (some bm) clock seen clock))) ∨
    ∃ e ∈ (leftOf es seen).toList, ∃ n : Nat, (Instr.next (.pointer (some ⟨w.heap.size, 0, none⟩)) false ty).run Try.prog (w.alloc (.mapIter (some bm) clock seen clock)) = .ok (.tuple #[.bool true, e.key, e.val]) ((w.drewN n).alloc (.mapIter (some bm) clock (seen.push e.born) clock)) := by
  have hlt : bm < w.heap.size := by
    rcases Nat.lt_or_ge bm w.heap.size with h | h
    · exact h
    · simp [Array.getElem?_eq_none h] at hb
  have hb' : (w.alloc (.mapIter (some bm) clock seen clock)).heap[bm]? = some (.map es clock) := by rw [heap_alloc_old w _ hlt, hb]
  simp only [Instr.next, getObj, Sem.run_bind, Sem.run, heap_alloc_new, hb', Result.andThen, next_test_false seen es clock clock hold (Nat.le_refl _), Bool.false_eq_true, if_false]
  unfold leftOf
  have hmem : ∀ x ∈ (Array.filter (fun e => !seen.contains e.born) es).toList, x.born < clock := fun x hx => hold x (by simp at hx ⊢; exact hx.1)
  generalize Array.filter (fun e => !seen.contains e.born) es = L at hmem ⊢
  have e1 : L.filter (fun x => decide (x.born < clock)) = L := Array.filter_eq_self.2 (fun x hx => by simpa using hmem x (by simpa using hx))
  have e2 : L.filter (fun x => decide (x.born ≥ clock)) = #[] := Array.filter_eq_empty_iff.2 (fun x hx => by have := hmem x (by simpa using hx); simp; omega)
  simp only [e1, e2, Array.append_empty]
  by_cases h0 : L.size = 0
  · have : L = #[] := Array.eq_empty_of_size_eq_zero h0
    subst this
    exact .inl ⟨rfl, by simp [choose, Sem.run, Question.forced]⟩
  · have hne : L.isEmpty = false := by simp [Array.isEmpty, h0]
    simp only [hne, Bool.false_eq_true, if_false, Array.empty_append, Array.size_map]
    obtain ⟨j, n, hj, hrun⟩ : ∃ (j n : Nat), j < L.size ∧ (choose (Question.mapNext L.size)).run Try.prog (w.alloc (.mapIter (some bm) clock seen clock)) = .ok j ((w.drewN n).alloc (.mapIter (some bm) clock seen clock)) := by
      by_cases hf : L.size ≤ 1
      · exact ⟨0, 0, by omega, by simp [choose, Sem.run, Question.forced, hf]; rfl⟩
      · exact ⟨_, 1, Nat.mod_lt _ (by omega), by
          simp only [choose, Sem.run, Question.forced, decide_eq_true_eq, hf, if_false, Question.cut]
          rfl⟩
    refine .inr ⟨L[j], by simp, n, ?_⟩
    have hset : ∀ (o' : Obj), (setObj w.heap.size o').run Try.prog ((w.drewN n).alloc (.mapIter (some bm) clock seen clock)) = .ok () ((w.drewN n).alloc o') := fun o' => by
      simp only [setObj, Sem.run]
      have hh : ((w.drewN n).alloc (.mapIter (some bm) clock seen clock)).heap[w.heap.size]? = some (.mapIter (some bm) clock seen clock) := heap_alloc_new (w.drewN n) _
      rw [hh]
      show Result.ok () ({ (w.drewN n).alloc (.mapIter (some bm) clock seen clock) with heap := (w.heap.push (.mapIter (some bm) clock seen clock)).setIfInBounds w.heap.size o' } : World) = _
      rw [set_push]
      rfl
    simp only [hrun, Array.getElem?_map, Array.getElem?_eq_getElem hj, Option.map_some, Sem.run_bind, hset, Result.andThen]
    rfl

set_option maxHeartbeats 1000000 in
set_option maxRecDepth 1000000 in
theorem sys_of (c : Int) (W : World) : Calls Try.prog 21 #[.int .i64 c] W fun e w' => e = .returned (.tuple #[.string (ofZ c).1, .int .i64 (ofZ c).2]) ∧ Ext W w' := by
  go_enter Try.func21, Try.ntmps21
  go_wp2_with fail
  refine (zeros_any _).mono ?_
  rintro e w ⟨bm, rfl, hb, hxt⟩
  have hrg := run_range_map (P := Try.prog) w 70 9 3 bm (zes 20) 20 Try.underlying70 hb
  go_wp2
  go_loopw [] (fun w' => ∃ (n : Nat) (seen : Array Nat), w' = (w.drewN n).alloc (.mapIter (some bm) 20 seen 20) ∧ Hid (∀ k, k < 20 → seen.contains k = true → ¬ (zerosL.getD k 0 ≤ c ∧ c < zerosL.getD k 0 + 10))) (fun w' => (leftOf (zes 20) (w'.iterSeen w.heap.size)).size)
  case atStart => exact ⟨0, #[], rfl, Lib.hid fun x _ h => by simp at h⟩
  case round =>
    obtain ⟨n, seen, rfl, hno⟩ := hrel
    have hxn : ∀ n o, Ext w ((w.drewN n).alloc o) := fun n o => Below.alloc (a := w) (w := w.drewN n) ⟨rfl, rfl, rfl, Nat.le_refl _, fun _ _ => rfl⟩ (Nat.le_refl _) o
    have law := next_map (w.drewN n) 0 bm 20 seen (zes 20) hb zes_born
    rcases law with ⟨h0, hrun⟩ | ⟨e, he, m, hrun⟩
    · have hnx : ∀ ty, (Instr.next (.pointer (some ⟨w.heap.size, 0, none⟩)) false ty).run Try.prog ((w.drewN n).alloc (.mapIter (some bm) 20 seen 20)) = _ := fun _ => hrun
      have HM : Hid (ofZ c = (⟨#[]⟩, -1)) := Lib.hid (of_miss c fun k hk => hno.out k hk (all_seen (zes 20) seen h0 _ (ent_mem hk)))
      go_wp2
      go_ret2
      exact ⟨by rw [HM.out]; rfl, hxt.trans (hxn _ _)⟩
    · obtain ⟨hmem, hns⟩ := mem_left he
      obtain ⟨k, hk, rfl⟩ := mem_zes hmem
      rw [World.drewN_drewN] at hrun
      have hnx : ∀ ty, (Instr.next (.pointer (some ⟨w.heap.size, 0, none⟩)) false ty).run Try.prog ((w.drewN n).alloc (.mapIter (some bm) 20 seen 20)) = .ok (.tuple #[.bool true, .string (nameAt k), .int .i64 (zerosL.getD k 0)]) ((w.drewN (n + m)).alloc (.mapIter (some bm) 20 (seen.push k) 20)) := fun _ => hrun
      have hen : (Instr.entry (.pointer (some ⟨w.heap.size, 0, none⟩))).run Try.prog ((w.drewN (n + m)).alloc (.mapIter (some bm) 20 (seen.push k) 20)) = .ok (.tuple #[.string (nameAt k), .int .i64 (zerosL.getD k 0)]) ((w.drewN (n + m)).alloc (.mapIter (some bm) 20 (seen.push k) 20)) := run_entry_map (P := Try.prog) (w.drewN (n + m)) bm 20 seen (zes 20) 20 (ent k) hb hmem zes_nodup
      have HH := Lib.hid (of_hit c k hk)
      have hz0 : 0 ≤ zerosL.getD k 0 := zerosL_pos ⟨k, hk⟩
      have hzb : zerosL.getD k 0 ≤ 120812 := by
        have : ∀ i : Fin 20, zerosL.getD i.1 0 ≤ 120812 := by decide
        exact this ⟨k, hk⟩
      have HL : Hid ((leftOf (zes 20) (seen.push k)).size < (leftOf (zes 20) seen).size) := Lib.hid (left_shrinks (zes 20) seen (ent k) he)
      have E1 : Hid (((w.drewN (n + m)).alloc (.mapIter (some bm) 20 (seen.push k) 20)).iterSeen w.heap.size = seen.push k) := Lib.hid (World.iterSeen_alloc (w.drewN (n + m)) _ _ _ _)
      have E2 : Hid (((w.drewN n).alloc (.mapIter (some bm) 20 seen 20)).iterSeen w.heap.size = seen) := Lib.hid (World.iterSeen_alloc (w.drewN n) _ _ _ _)
      have HZ : ∃ z, Hid (zerosL.getD k 0 = z) ∧ zerosL.getD k 0 = z := ⟨_, Lib.hid rfl, rfl⟩
      obtain ⟨z, HZ, hz⟩ := HZ
      rw [hz] at hnx hen HH hz0 hzb
      clear hz hrun hns
      generalize nameAt k = nm at *
      by_cases h1 : z ≤ c
      · by_cases h2 : c < z + 10
        · have HO : Hid (ofZ c = (nm, c - z)) := Lib.hid (HH.out h1 h2)
          go_wp2
          go_ret2
          exact ⟨by rw [HO.out]; rfl, hxt.trans (hxn _ _)⟩
        · have HN : Hid (¬ (z ≤ c ∧ c < z + 10)) := Lib.hid (by omega)
          go_wp2
          go_roundw
          case rel =>
            refine ⟨n + m, seen.push k, rfl, Lib.hid fun x hx hc => ?_⟩
            rw [contains_push] at hc
            rcases Bool.or_eq_true _ _ ▸ hc with h | h
            · exact hno.out x hx h
            · obtain rfl : x = k := beq_iff_eq.1 h
              rw [HZ.out]; exact HN.out
          case measure => rw [E1.out, E2.out]; exact HL.out
      · have HN : Hid (¬ (z ≤ c ∧ c < z + 10)) := Lib.hid (by omega)
        go_wp2
        go_roundw
        case rel =>
          refine ⟨n + m, seen.push k, rfl, Lib.hid fun x hx hc => ?_⟩
          rw [contains_push] at hc
          rcases Bool.or_eq_true _ _ ▸ hc with h | h
          · exact hno.out x hx h
          · obtain rfl : x = k := beq_iff_eq.1 h
            rw [HZ.out]; exact HN.out
        case measure => rw [E1.out, E2.out]; exact HL.out
end Go.Proofs.Ytbhmmodphjmlmaa.Sys
