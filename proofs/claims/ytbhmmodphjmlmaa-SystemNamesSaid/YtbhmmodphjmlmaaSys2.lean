/- Walks: systems of digits, the program's side. -/
import Derived.Test.YtbhmmodphjmlmaaSys
import Derived.Maps.Own
namespace Go.Proofs.Ytbhmmodphjmlmaa.Sys
open Go.RowKit Utf Small Build
set_option linter.unusedVariables false
set_option linter.unusedSimpArgs false

/-- the program's map: an entry a name -/
def ent (k : Nat) : MapEntry := { key := .string (nameAt k), val := .int .i64 (zerosL.getD k 0), born := k }
def zes (k : Nat) : Array MapEntry := ((List.range k).map ent).toArray
theorem zes_push (k : Nat) : (zes k).push (ent k) = zes (k + 1) := by
  unfold zes; rw [List.range_succ, List.map_append]; simp

theorem set_push {α : Type} (a : Array α) (x y : α) : (a.push x).setIfInBounds a.size y = a.push y := by
  apply Array.ext_getElem?
  intro i
  simp only [Array.getElem?_setIfInBounds, Array.getElem?_push, Array.size_push]
  by_cases h : i = a.size
  · subst h; simp
  · simp [h, Ne.symm h]
theorem run_ins (w : World) (es : Array MapEntry) (clock : Nat) (s : ByteArray) (v : Value) (h : Instr.findNow .string (.string s) es.toList 0 = some none) :
    (Instr.mapUpdate 70 (.map (some w.heap.size)) (.string s) v).run Try.prog (w.alloc (.map es clock)) = .ok () (w.alloc (.map (es.push { key := .string s, val := v, born := clock }) (clock + 1))) := by
  have hb : (w.alloc (.map es clock)).heap[w.heap.size]? = some (.map es clock) := heap_alloc_new w _
  unfold Instr.mapUpdate
  simp only [Sem.run_bind, run_underlying (P := Try.prog) Try.underlying70, Result.andThen_ok, MapKept.run_getObj_map hb, MapKept.run_checkKey (P := Try.prog) (d := .string) Try.underlying9 (k := .string s) trivial, MapKept.run_findKey (P := Try.prog) Try.underlying9 h, MapKept.run_setObj_map _ hb]
  show Result.ok () ({ w with heap := (w.heap.push _).setIfInBounds w.heap.size _ } : World) = _
  rw [set_push]
  rfl
theorem run_insN (w : World) (k : Nat) (h : (Instr.findNow .string (.string (nameAt k)) (zes k).toList 0 matches some none) = true) :
    (Instr.mapUpdate 70 (.map (some w.heap.size)) (.string (nameAt k)) (.int .i64 (zerosL.getD k 0))).run Try.prog (w.alloc (.map (zes k) k)) = .ok () (w.alloc (.map (zes (k + 1)) (k + 1))) := by
  rw [run_ins w (zes k) k (nameAt k) _ (by split at h <;> simp_all)]
  rw [← zes_push]; rfl

set_option maxRecDepth 100000 in
set_option maxHeartbeats 2000000 in
theorem sys_zeros (w : World) : Calls Try.prog 50 #[] w fun e w' => e = .returned (.map (some w.heap.size)) ∧ w' = w.alloc (.map (zes 20) 20) := by
  have hmm := @run_makeMap Try.prog
  have h0 : ∀ w : World, (Instr.mapUpdate 70 (.map (some w.heap.size)) (.string ⟨#[97, 114, 97, 98]⟩) (.int .i64 1632)).run Try.prog (w.alloc (.map #[] 0)) = .ok () (w.alloc (.map (zes 1) 1)) := fun w => run_insN w 0 (by decide +kernel)
  have h1 : ∀ w : World, (Instr.mapUpdate 70 (.map (some w.heap.size)) (.string ⟨#[97, 114, 97, 98, 101, 120, 116]⟩) (.int .i64 1776)).run Try.prog (w.alloc (.map (zes 1) 1)) = .ok () (w.alloc (.map (zes 2) 2)) := fun w => run_insN w 1 (by decide +kernel)
  have h2 : ∀ w : World, (Instr.mapUpdate 70 (.map (some w.heap.size)) (.string ⟨#[98, 101, 110, 103]⟩) (.int .i64 2534)).run Try.prog (w.alloc (.map (zes 2) 2)) = .ok () (w.alloc (.map (zes 3) 3)) := fun w => run_insN w 2 (by decide +kernel)
  have h3 : ∀ w : World, (Instr.mapUpdate 70 (.map (some w.heap.size)) (.string ⟨#[100, 101, 118, 97]⟩) (.int .i64 2406)).run Try.prog (w.alloc (.map (zes 3) 3)) = .ok () (w.alloc (.map (zes 4) 4)) := fun w => run_insN w 3 (by decide +kernel)
  have h4 : ∀ w : World, (Instr.mapUpdate 70 (.map (some w.heap.size)) (.string ⟨#[102, 117, 108, 108, 119, 105, 100, 101]⟩) (.int .i64 65296)).run Try.prog (w.alloc (.map (zes 4) 4)) = .ok () (w.alloc (.map (zes 5) 5)) := fun w => run_insN w 4 (by decide +kernel)
  have h5 : ∀ w : World, (Instr.mapUpdate 70 (.map (some w.heap.size)) (.string ⟨#[103, 117, 106, 114]⟩) (.int .i64 2790)).run Try.prog (w.alloc (.map (zes 5) 5)) = .ok () (w.alloc (.map (zes 6) 6)) := fun w => run_insN w 5 (by decide +kernel)
  have h6 : ∀ w : World, (Instr.mapUpdate 70 (.map (some w.heap.size)) (.string ⟨#[103, 117, 114, 117]⟩) (.int .i64 2662)).run Try.prog (w.alloc (.map (zes 6) 6)) = .ok () (w.alloc (.map (zes 7) 7)) := fun w => run_insN w 6 (by decide +kernel)
  have h7 : ∀ w : World, (Instr.mapUpdate 70 (.map (some w.heap.size)) (.string ⟨#[107, 104, 109, 114]⟩) (.int .i64 6112)).run Try.prog (w.alloc (.map (zes 7) 7)) = .ok () (w.alloc (.map (zes 8) 8)) := fun w => run_insN w 7 (by decide +kernel)
  have h8 : ∀ w : World, (Instr.mapUpdate 70 (.map (some w.heap.size)) (.string ⟨#[107, 110, 100, 97]⟩) (.int .i64 3302)).run Try.prog (w.alloc (.map (zes 8) 8)) = .ok () (w.alloc (.map (zes 9) 9)) := fun w => run_insN w 8 (by decide +kernel)
  have h9 : ∀ w : World, (Instr.mapUpdate 70 (.map (some w.heap.size)) (.string ⟨#[108, 97, 111, 111]⟩) (.int .i64 3792)).run Try.prog (w.alloc (.map (zes 9) 9)) = .ok () (w.alloc (.map (zes 10) 10)) := fun w => run_insN w 9 (by decide +kernel)
  have h10 : ∀ w : World, (Instr.mapUpdate 70 (.map (some w.heap.size)) (.string ⟨#[108, 97, 116, 110]⟩) (.int .i64 48)).run Try.prog (w.alloc (.map (zes 10) 10)) = .ok () (w.alloc (.map (zes 11) 11)) := fun w => run_insN w 10 (by decide +kernel)
  have h11 : ∀ w : World, (Instr.mapUpdate 70 (.map (some w.heap.size)) (.string ⟨#[109, 97, 116, 104, 115, 97, 110, 98]⟩) (.int .i64 120812)).run Try.prog (w.alloc (.map (zes 11) 11)) = .ok () (w.alloc (.map (zes 12) 12)) := fun w => run_insN w 11 (by decide +kernel)
  have h12 : ∀ w : World, (Instr.mapUpdate 70 (.map (some w.heap.size)) (.string ⟨#[109, 108, 121, 109]⟩) (.int .i64 3430)).run Try.prog (w.alloc (.map (zes 12) 12)) = .ok () (w.alloc (.map (zes 13) 13)) := fun w => run_insN w 12 (by decide +kernel)
  have h13 : ∀ w : World, (Instr.mapUpdate 70 (.map (some w.heap.size)) (.string ⟨#[109, 111, 110, 103]⟩) (.int .i64 6160)).run Try.prog (w.alloc (.map (zes 13) 13)) = .ok () (w.alloc (.map (zes 14) 14)) := fun w => run_insN w 13 (by decide +kernel)
  have h14 : ∀ w : World, (Instr.mapUpdate 70 (.map (some w.heap.size)) (.string ⟨#[109, 121, 109, 114]⟩) (.int .i64 4160)).run Try.prog (w.alloc (.map (zes 14) 14)) = .ok () (w.alloc (.map (zes 15) 15)) := fun w => run_insN w 14 (by decide +kernel)
  have h15 : ∀ w : World, (Instr.mapUpdate 70 (.map (some w.heap.size)) (.string ⟨#[111, 114, 121, 97]⟩) (.int .i64 2918)).run Try.prog (w.alloc (.map (zes 15) 15)) = .ok () (w.alloc (.map (zes 16) 16)) := fun w => run_insN w 15 (by decide +kernel)
  have h16 : ∀ w : World, (Instr.mapUpdate 70 (.map (some w.heap.size)) (.string ⟨#[116, 97, 109, 108, 100, 101, 99]⟩) (.int .i64 3046)).run Try.prog (w.alloc (.map (zes 16) 16)) = .ok () (w.alloc (.map (zes 17) 17)) := fun w => run_insN w 16 (by decide +kernel)
  have h17 : ∀ w : World, (Instr.mapUpdate 70 (.map (some w.heap.size)) (.string ⟨#[116, 101, 108, 117]⟩) (.int .i64 3174)).run Try.prog (w.alloc (.map (zes 17) 17)) = .ok () (w.alloc (.map (zes 18) 18)) := fun w => run_insN w 17 (by decide +kernel)
  have h18 : ∀ w : World, (Instr.mapUpdate 70 (.map (some w.heap.size)) (.string ⟨#[116, 104, 97, 105]⟩) (.int .i64 3664)).run Try.prog (w.alloc (.map (zes 18) 18)) = .ok () (w.alloc (.map (zes 19) 19)) := fun w => run_insN w 18 (by decide +kernel)
  have h19 : ∀ w : World, (Instr.mapUpdate 70 (.map (some w.heap.size)) (.string ⟨#[116, 105, 98, 116]⟩) (.int .i64 3872)).run Try.prog (w.alloc (.map (zes 19) 19)) = .ok () (w.alloc (.map (zes 20) 20)) := fun w => run_insN w 19 (by decide +kernel)
  go_enter Try.func50, Try.ntmps50
  go_wp2
  go_ret
  exact ⟨rfl, rfl⟩

/-! ### look-ups in that map -/
theorem findNow_names (s : ByteArray) : ∀ (l : List Nat) (i : Nat), Instr.findNow .string (.string s) (l.map ent) i = some ((l.findIdx? (fun k => decide (nameAt k = s))).map (fun j => (i + j, (ent (l.getD j 0)).val)))
  | [], i => rfl
  | k :: l, i => by
    have ih := findNow_names s l (i + 1)
    have hk : Instr.sameNow .string (.string s) (ent k).key = some (s == nameAt k) := rfl
    rw [List.map_cons, Instr.findNow, hk, List.findIdx?_cons]
    by_cases h : nameAt k = s
    · have hb : (s == nameAt k) = true := (MapKept.bytes_beq _ _).2 h.symm
      rw [hb, decide_eq_true h]
      rfl
    · have hb : (s == nameAt k) = false := by
        rw [← Bool.not_eq_true, MapKept.bytes_beq]; exact fun e => h e.symm
      rw [hb, decide_eq_false h]
      dsimp only
      rw [ih]
      cases hf : l.findIdx? (fun k => decide (nameAt k = s)) with
      | none => simp
      | some j => simp; omega
theorem names_range : names = (List.range 20).map nameAt := by decide +kernel
theorem zerosL_pos : ∀ i : Fin 20, 0 ≤ zerosL.getD i.1 0 := by decide
theorem find_zes (s : ByteArray) : (0 ≤ zeroZ s ∧ ∃ j, Instr.findNow .string (.string s) (zes 20).toList 0 = some (some (j, .int .i64 (zeroZ s)))) ∨ (zeroZ s = -1 ∧ Instr.findNow .string (.string s) (zes 20).toList 0 = some none) := by
  have h := findNow_names s (List.range 20) 0
  have hz : (zes 20).toList = (List.range 20).map ent := rfl
  rw [hz, h]
  have hn : names.findIdx? (fun n => decide (n = s)) = (List.range 20).findIdx? (fun k => decide (nameAt k = s)) := by
    rw [names_range, List.findIdx?_map]; rfl
  unfold zeroZ
  rw [hn]
  cases hf : (List.range 20).findIdx? (fun k => decide (nameAt k = s)) with
  | none => exact .inr ⟨rfl, rfl⟩
  | some j =>
    rw [List.findIdx?_eq_some_iff_getElem] at hf
    obtain ⟨hj, _⟩ := hf
    have hj' : j < 20 := by simpa using hj
    refine .inl ⟨zerosL_pos ⟨j, hj'⟩, 0 + j, ?_⟩
    have : (List.range 20).getD j 0 = j := by
      rw [List.getD_eq_getElem?_getD, List.getElem?_range hj']; rfl
    show some (some (0 + j, (ent ((List.range 20).getD j 0)).val)) = _
    rw [this]; rfl

theorem run_look (w : World) (b : Nat) (s : ByteArray) (hb : w.heap[b]? = some (.map (zes 20) 20)) :
    (Instr.lookup 70 (.map (some b)) (.string s) true).run Try.prog w = .ok (.tuple #[.int .i64 (max (zeroZ s) 0), .bool (decide (0 ≤ zeroZ s))]) w := by
  have hz : (zeroValue 3).run Try.prog w = .ok (.int .i64 0) w := by kernel_rfl
  unfold Instr.lookup
  rcases find_zes s with ⟨h0, j, hf⟩ | ⟨h0, hf⟩
  · simp only [Sem.run_bind, run_underlying (P := Try.prog) Try.underlying70, Result.andThen_ok, MapKept.run_getObj_map hb, MapKept.run_checkKey (P := Try.prog) (d := .string) Try.underlying9 (k := .string s) trivial, MapKept.run_findKey (P := Try.prog) Try.underlying9 hf, Sem.run_pure]
    rw [decide_eq_true h0, show max (zeroZ s) 0 = zeroZ s by omega]
    rfl
  · simp only [Sem.run_bind, run_underlying (P := Try.prog) Try.underlying70, Result.andThen_ok, MapKept.run_getObj_map hb, MapKept.run_checkKey (P := Try.prog) (d := .string) Try.underlying9 (k := .string s) trivial, MapKept.run_findKey (P := Try.prog) Try.underlying9 hf, Sem.run_pure, hz]
    rw [h0]
    rfl

/-- the error where there is no such system -/
def noneE (s : ByteArray) : Int := if 0 ≤ zeroZ s then 0 else 7
set_option maxHeartbeats 1000000 in
theorem sys_zero (s : ByteArray) (w : World) : Calls Try.prog 44 #[.string s] w fun e w' => e = .returned (.tuple #[.int .i64 (max (zeroZ s) 0), .int .i64 (noneE s)]) ∧ Ext w w' := by
  have hlk := fun (w : World) => run_look (w.alloc (.map (zes 20) 20)) w.heap.size s (heap_alloc_new w _)
  by_cases h : 0 ≤ zeroZ s
  · have HE : Hid (noneE s = 0) := Lib.hid (by unfold noneE; rw [if_pos h])
    have HD : Hid (decide (0 ≤ zeroZ s) = true) := Lib.hid (by simpa using h)
    rw [HD.out] at hlk
    clear h HD
    generalize max (zeroZ s) 0 = m at *
    go_enter Try.func44, Try.ntmps44
    go_wp2_with fail
    refine (sys_zeros _).mono ?_
    rintro e w1 ⟨rfl, rfl⟩
    go_wp2
    go_ret2
    exact ⟨by rw [HE.out]; rfl, (Below.refl _ _).alloc (Nat.le_refl _) _⟩
  · have HE : Hid (noneE s = 7) := Lib.hid (by unfold noneE; rw [if_neg h])
    have HD : Hid (decide (0 ≤ zeroZ s) = false) := Lib.hid (by simpa using h)
    have HM : Hid (max (zeroZ s) 0 = 0) := Lib.hid (by omega)
    rw [HD.out] at hlk
    clear h HD
    generalize max (zeroZ s) 0 = m at *
    go_enter Try.func44, Try.ntmps44
    go_wp2_with fail
    refine (sys_zeros _).mono ?_
    rintro e w1 ⟨rfl, rfl⟩
    go_wp2
    go_ret2
    exact ⟨by rw [HE.out, HM.out]; rfl, (Below.refl _ _).alloc (Nat.le_refl _) _⟩
end Go.Proofs.Ytbhmmodphjmlmaa.Sys
