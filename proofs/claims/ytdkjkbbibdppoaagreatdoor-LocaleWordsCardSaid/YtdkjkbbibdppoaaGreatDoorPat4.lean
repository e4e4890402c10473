/- Patterns of numbers: a number's signs: the walks of runs and number. -/
import Derived.Test.YtdkjkbbibdppoaaGreatDoorPat3
import Derived.Test.YtdkjkbbibdppoaaGreatDoorPatP
import Derived.Test.YtdkjkbbibdppoaaGreatDoorStrs
import Derived.BigRegion
import Derived.Lib.IndexBytes
namespace Go.Proofs.YtdkjkbbibdppoaaGreatDoor.Pat
open Go.RowKit Utf All Small Strs
set_option linter.unusedVariables false
set_option linter.unusedSimpArgs false

theorem splitK_cons_ne (b c : UInt8) (l : List UInt8) (k : Nat) (h : b ≠ c) : ∃ g gs, Lib.splitK [c] 0 k l = g :: gs ∧ Lib.splitK [c] 0 k (b :: l) = (b :: g) :: gs := by
  cases k with
  | zero => exact ⟨l, [], rfl, rfl⟩
  | succ k =>
    have hp : ([c].isPrefixOf (b :: l)) = false := by simp [List.isPrefixOf]; exact fun e => absurd e.symm h
    have hi : Lib.index (b :: l) [c] = if Lib.index l [c] == -1 then -1 else Lib.index l [c] + 1 := by rw [Lib.index, hp]; rfl
    by_cases hm : Lib.index l [c] == -1
    · rw [if_pos hm] at hi
      exact ⟨l, [], by rw [Lib.splitK, if_pos hm], by rw [Lib.splitK, hi]; rfl⟩
    · rw [if_neg hm] at hi
      have hge : -1 ≤ Lib.index l [c] := by rw [Lib.index_one]; exact Lib.indexByte_ge _ _
      have hne : Lib.index l [c] ≠ -1 := by simpa using hm
      have h2 : ¬ (Lib.index l [c] + 1 == -1) = true := by simp; omega
      refine ⟨l.take ((Lib.index l [c]).toNat + 0), Lib.splitK [c] 0 k (l.drop ((Lib.index l [c]).toNat + [c].length)), by rw [Lib.splitK, if_neg hm], ?_⟩
      rw [Lib.splitK, hi, if_neg h2]
      have e : (Lib.index l [c] + 1).toNat = (Lib.index l [c]).toNat + 1 := by omega
      rw [e]
      simp
theorem splitK_splitL (c : UInt8) (l : List UInt8) : Lib.splitK [c] 0 (l.count c) l = splitL c l := by
  induction l with
  | nil => rfl
  | cons b l ih =>
    by_cases h : b = c
    · subst h
      rw [List.count_cons_self, splitL_cons_eq, ← ih]
      have hi : Lib.index (b :: l) [b] = 0 := by rw [Lib.index_one, Lib.indexByte]; simp
      rw [Lib.splitK, hi]
      simp
    · rw [List.count_cons_of_ne h]
      obtain ⟨g, gs, h1, h2⟩ := splitK_cons_ne b c l (l.count c) h
      obtain ⟨g', gs', h1', h2'⟩ := splitL_cons_ne (l := l) h
      rw [h2, h2']
      rw [ih, h1'] at h1
      injection h1 with h1 h3
      rw [h1, h3]
theorem splitL_len (c : UInt8) (l : List UInt8) : (splitL c l).length = l.count c + 1 := by
  induction l with
  | nil => rfl
  | cons b l ih =>
    by_cases h : b = c
    · subst h; rw [List.count_cons_self, splitL_cons_eq, List.length_cons, ih]
    · obtain ⟨g, gs, h1, h2⟩ := splitL_cons_ne (l := l) h
      rw [List.count_cons_of_ne h, h2, ← ih, h1]; rfl
theorem splitL_flat (c : UInt8) (l : List UInt8) : (splitL c l).flatten = l.filter (· ≠ c) := by
  induction l with
  | nil => rfl
  | cons b l ih =>
    by_cases h : b = c
    · subst h; rw [splitL_cons_eq, List.flatten_cons, ih]; simp
    · obtain ⟨g, gs, h1, h2⟩ := splitL_cons_ne (l := l) h
      rw [h1] at ih
      rw [h2, List.filter_cons, if_pos (by simpa using h), ← ih]
      simp
def strV (x : List UInt8) : Value := .string ⟨x.toArray⟩
theorem splitB_splitL (c : UInt8) (s : ByteArray) : (Lib.splitB (Strs.one c) 0 (Lib.countB s (Strs.one c)) s).map Value.string = (splitL c s.data.toList).map strV := by
  have h := Lib.splitB_data (Strs.one c) 0 (Lib.countB s (Strs.one c)) s
  have h2 : Lib.countB s (Strs.one c) = s.data.toList.count c := Lib.count_one c _
  rw [h2] at h ⊢
  have h3 := splitK_splitL c s.data.toList
  rw [← h3]
  have h4 : (Strs.one c).data.toList = [c] := rfl
  rw [h4] at h
  rw [← h, List.map_map]
  refine List.map_congr_left fun x _ => ?_
  show Value.string x = Value.string ⟨x.data.toList.toArray⟩
  rw [Array.toArray_toList]
theorem hi9 : (Tryz.prog.info? 9).map (fun i => (i.zero, i.size, i.bytes)) = some (some (.string ByteArray.empty), 1, 16) := by kernel_rfl

set_option maxHeartbeats 1000000 in
theorem split_one (s : ByteArray) (c : UInt8) (w : World) (hs : s.size < 4294967281) :
    Calls Tryz.prog 147 #[.string s, .string (Strs.one c)] w fun e w' => e = .returned (.slice (some ⟨w.heap.size, 0, none⟩) (splitL c s.data.toList).length (splitL c s.data.toList).length) ∧ w' = w.alloc (.cells ((splitL c s.data.toList).map strV).toArray 9) := by
  have h1 : 1 ≤ (Strs.one c).size := Nat.le_refl _
  have hle := Lib.countB_le (Strs.one c) h1 s.size s (Nat.le_refl _)
  have hlen := Lib.splitB_all (Strs.one c) h1 0 _ s rfl
  have h2 : Lib.countB s (Strs.one c) = s.data.toList.count c := Lib.count_one c _
  have hc := Any.strings_genSplit_core Tryz.lays221 hi9 s (Strs.one c) 0 (-1) (Lib.countB s (Strs.one c) + 1) w hs h1 (Nat.zero_le _)
    (fun x cs hx => (Tryz.strings_Index_one x c _).mono fun e w' ⟨he, hw⟩ => ⟨by rw [he, ← Lib.index_one], hw⟩)
    ((Tryz.strings_Count_one s c w).mono fun e w' ⟨he, hw⟩ => ⟨by rw [he, h2]; rfl, hw⟩) (by decide) (by decide) (by rw [if_pos (by decide)]; omega)
  rw [Nat.add_sub_cancel, hlen] at hc
  have e2 : Lib.cellsOf (Lib.splitB (Strs.one c) 0 (Lib.countB s (Strs.one c)) s) (Lib.countB s (Strs.one c) + 1) = ((splitL c s.data.toList).map strV).toArray := by
    rw [← splitB_splitL, ← hlen]; exact Lib.cellsOf_full _
  rw [e2, h2, ← splitL_len] at hc
  have HC := Lib.hid hc
  clear hc
  go_enter Tryz.func147, Tryz.ntmps147
  go_wp2_with fail
  refine HC.out.mono ?_; rintro e w' ⟨rfl, rfl⟩
  go_wp2
  go_ret
  exact ⟨rfl, rfl⟩

theorem runs_ (s : ByteArray) (a b : UInt8) (ha : a.toNat < 128) (hb : b.toNat < 128) (w : World) :
    Calls Tryz.prog 148 #[.string s, .string (Strs.one a), .string (Strs.one b)] w fun e w' => e = .returned (.bool (runsL a b s.data.toList)) ∧ w = w' := by
  go_enter Tryz.func148, Tryz.ntmps148
  go_wp2_with fail
  refine (Tryz.strings_TrimLeft_one _ _ ha _).mono ?_; rintro e w' ⟨rfl, rfl⟩
  go_wp2_with fail
  refine (Tryz.strings_TrimLeft_one _ _ hb _).mono ?_; rintro e w' ⟨rfl, rfl⟩
  go_wp2
  go_ret
  refine ⟨ret_bool ?_, rfl⟩
  have e : (Lib.trimLeftB (Lib.trimLeftB s.data.toList a) b) = ((s.data.toList.dropWhile (· = a)).dropWhile (· = b)) := rfl
  rw [e]
  unfold runsL
  rw [Bool.eq_iff_iff]
  simp

/-- what a number's signs say: where its groups end, the noughts and places; whether it is short enough; nothing: it is none -/
structure Nums where
  prim : Int
  sec : Int
  minInt : Int
  minFrac : Int
  maxFrac : Int
deriving DecidableEq
def wholeOk (w : List UInt8) : Bool := !((splitL 44 w).contains []) && runsL 35 48 (splitL 44 w).flatten
def restOk (r : List UInt8) (point : Bool) : Bool := !point || (decide (r ≠ []) && runsL 48 35 r)
def numN (w r : List UInt8) : Nums where
  prim := if 1 < (splitL 44 w).length then ((splitL 44 w).getD ((splitL 44 w).length - 1) []).length else 0
  sec := if 2 < (splitL 44 w).length then ((splitL 44 w).getD ((splitL 44 w).length - 2) []).length else if 1 < (splitL 44 w).length then ((splitL 44 w).getD ((splitL 44 w).length - 1) []).length else 0
  minInt := w.count 48
  minFrac := r.count 48
  maxFrac := r.length
def shortN (w r : List UInt8) : Bool := decide (w.length - ((splitL 44 w).length - 1) ≤ 64) && decide (r.length ≤ 64)
def numP (s : List UInt8) : Option (Nums × Bool) :=
  if wholeOk (cutL 46 s).1 then (if restOk (cutL 46 s).2.1 (cutL 46 s).2.2 then some (numN (cutL 46 s).1 (cutL 46 s).2.1, shortN (cutL 46 s).1 (cutL 46 s).2.1) else none) else none
def patC (S1 S2 S3 S4 : Value) (n : Nums) : List Value := [S1, S2, S3, S4, .int .i64 n.prim, .int .i64 n.sec, .int .i64 n.minInt, .int .i64 n.minFrac, .int .i64 n.maxFrac]
def zeroN : Nums := ⟨0, 0, 0, 0, 0⟩
theorem cutL_len (c : UInt8) (l : List UInt8) : (cutL c l).1.length ≤ l.length ∧ (cutL c l).2.1.length ≤ l.length := by
  unfold cutL; split <;> simp
  exact Nat.min_le_right _ _

/-- of the blocks that were there none but g has turned -/
structure OnlyB (g : Nat) (w w' : World) : Prop where
  os : w'.os = w.os
  tape : w'.tape = w.tape
  output : w'.output = w.output
  size : w.heap.size ≤ w'.heap.size
  block : ∀ k, k < w.heap.size → k ≠ g → w'.heap[k]? = w.heap[k]?
theorem OnlyB.of_ext {g : Nat} {w w' : World} (h : Ext w w') : OnlyB g w w' := ⟨h.os, h.tape, h.output, h.size, fun k hk _ => h.block k hk⟩
theorem OnlyB.setCell {g : Nat} {w w' : World} (h : OnlyB g w w') (j : Nat) (v : Value) : OnlyB g w (w'.setCell ⟨g, j, none⟩ v) :=
  ⟨h.os, h.tape, h.output, by have := h.size; simpa using this, fun k hk hne => (heap_setCell_other w' ⟨g, j, none⟩ k v hne).trans (h.block k hk hne)⟩
theorem OnlyB.drew {g : Nat} {w w' : World} (h : OnlyB g w w') : OnlyB g w w'.drew := ⟨h.os, h.tape, h.output, h.size, h.block⟩
theorem OnlyB.box {g k : Nat} {w w' : World} {T : TypeId} {cs : List Value} (h : OnlyB g w w') (hb : Box w k T cs) (hne : k ≠ g) : Box w' k T cs := (h.block k hb.lt hne).trans hb
theorem Row.only {g : Nat} {w w' : World} {A : Option Addr} {cs : List Value} (hr : Row w A cs) (h : OnlyB g w w') (hne : ∀ b off, A = some ⟨b, off, none⟩ → b < w.heap.size → b ≠ g) : Row w' A cs := by
  rcases hr with hr | ⟨b, off, rfl, hr⟩
  · exact .inl hr
  · refine .inr ⟨b, off, rfl, fun j v hj => ?_⟩
    have hlt := block_lt (hr j v hj)
    rw [← hr j v hj]
    exact World.cell?_of_block (h.block b hlt (hne b off rfl hlt))
def NumR (g : Nat) (S1 S2 S3 S4 : Value) (w : World) : Option (Nums × Bool) → Ending → World → Prop
  | none, e, w' => e = refused ∧ OnlyB g w w'
  | some (n, b), e, w' => e = .returned (.bool b) ∧ Box w' g 28 (patC S1 S2 S3 S4 n) ∧ OnlyB g w w'

theorem Row.setOther {w : World} {G g j : Nat} {v : Value} {cs : List Value} (h : Row w (some ⟨G, 0, none⟩) cs) (hne : G ≠ g) : Row (w.setCell ⟨g, j, none⟩ v) (some ⟨G, 0, none⟩) cs := by
  rcases h with h | ⟨b, off, e, h⟩
  · exact .inl h
  · refine .inr ⟨b, off, e, fun k u hk => ?_⟩
    injection e with e; injection e with e1 e2
    subst e1; subst e2
    refine (World.cell?_setCell_other w ⟨g, j, none⟩ ⟨G, 0 + k, none⟩ v (fun e => ?_)).trans (h k u hk)
    injection e with e
    exact hne e.symm
theorem strs_cell {w : World} {b : Nat} {gs : List (List UInt8)} (h : Row w (some ⟨b, 0, none⟩) (gs.map strV)) {j : Nat} {x : List UInt8} (hj : gs[j]? = some x) : w.cell? ⟨b, j, none⟩ = some (strV x) :=
  h.cell00 (by simp [hj])
theorem contains_empty (b c : Nat) (gs : List (List UInt8)) (w : World) (hr : Row w (some ⟨b, 0, none⟩) (gs.map strV)) (hl : gs.length ≤ 10000000000) :
    Calls Tryz.prog 84 #[.slice (some ⟨b, 0, none⟩) gs.length c, .string ⟨#[]⟩] w fun e w' => e = .returned (.bool (gs.contains [])) ∧ w' = w := by
  have h := Tryz.slices_Contains_string b 0 gs.length c (gs.map fun x => ⟨x.toArray⟩) ⟨#[]⟩ w (by simp) (by omega) (fun j hj => by
    rw [List.length_map] at hj
    rw [Nat.zero_add, strs_cell hr (List.getElem?_eq_getElem hj)]
    simp [strV, hj])
  refine h.mono fun e w' ⟨he, hw⟩ => ⟨?_, hw⟩
  rw [he]
  refine ret_bool ?_
  rw [Bool.eq_iff_iff, Lib.containsS_iff, List.take_of_length_le (by simp)]
  simp
theorem intercalate_nil (gs : List (List UInt8)) : Lib.join gs [] = gs.flatten := by
  unfold Lib.join
  induction gs with
  | nil => rfl
  | cons g gs ih =>
    cases gs with
    | nil => simp [List.intercalate]
    | cons h gs =>
      have := ih
      simp [List.intercalate] at this ⊢
      exact this
theorem join_ (b c : Nat) (gs : List (List UInt8)) (w : World) (hr : Row w (some ⟨b, 0, none⟩) (gs.map strV)) (hb : b < w.heap.size) (hl : gs.length ≤ 10000000000) (hc : gs.length ≤ c) (hf : gs.flatten.length ≤ 10000000000) :
    Calls Tryz.prog 149 #[.slice (some ⟨b, 0, none⟩) gs.length c, .string ⟨#[]⟩] w fun e w' => e = .returned (.string ⟨gs.flatten.toArray⟩) ∧ Ext w w' := by
  have e1 : (gs.map fun x => (⟨x.toArray⟩ : ByteArray)).map (·.data.toList) = gs := by rw [List.map_map]; exact (List.map_congr_left fun x _ => rfl).trans (List.map_id _)
  have h := Tryz.strings_Join b 0 c (gs.map fun x => ⟨x.toArray⟩) ⟨#[]⟩ w (fun j x hj => by
    rw [List.getElem?_map] at hj
    obtain ⟨y, hy, rfl⟩ := Option.map_eq_some_iff.1 hj
    rw [Nat.zero_add, strs_cell hr hy]; rfl) hb (by simp; omega) (by simpa using hc) (by rw [e1, intercalate_nil]; omega)
  rw [e1, intercalate_nil, List.length_map] at h
  exact h

set_option maxRecDepth 100000 in
set_option maxHeartbeats 4000000 in
theorem number_ (g : Nat) (S1 S2 S3 S4 : Value) (s : ByteArray) (w : World) (hb : Box w g 28 (patC S1 S2 S3 S4 zeroN)) (hs : s.size ≤ 1000000000) :
    Calls Tryz.prog 97 #[.pointer (some ⟨g, 0, none⟩), .string s] w fun e w' => NumR g S1 S2 S3 S4 w (numP s.data.toList) e w' := by
  have HP : Hid (numP s.data.toList = if wholeOk (cutL 46 s.data.toList).1 then (if restOk (cutL 46 s.data.toList).2.1 (cutL 46 s.data.toList).2.2 then some (numN (cutL 46 s.data.toList).1 (cutL 46 s.data.toList).2.1, shortN (cutL 46 s.data.toList).1 (cutL 46 s.data.toList).2.1) else none) else none) := Lib.hid rfl
  obtain ⟨hl1, hl2⟩ := cutL_len 46 s.data.toList
  rw [data_len] at hl1 hl2
  go_enter Tryz.func97, Tryz.ntmps97
  go_wp2_with fail
  refine (cut_one _ _ _ (by unfold maxLen; omega)).mono ?_; rintro e w1 ⟨rfl, hx1⟩
  generalize (cutL 46 s.data.toList).1 = wh at *
  generalize (cutL 46 s.data.toList).2.1 = re at *
  generalize (cutL 46 s.data.toList).2.2 = pt at *
  go_wp2_with fail
  refine (split_one _ _ _ (by rw [show (⟨wh.toArray⟩ : ByteArray).size = wh.length from rfl]; omega)).mono ?_; rintro e w2 ⟨rfl, rfl⟩
  have HW : Hid (wholeOk wh = (!((splitL 44 wh).contains []) && runsL 35 48 (splitL 44 wh).flatten)) := Lib.hid rfl
  have hcl : (splitL 44 wh).length ≤ wh.length + 1 := by rw [splitL_len]; have := List.count_le_length (a := (44 : UInt8)) (l := wh); omega
  have hfl : (splitL 44 wh).flatten.length ≤ wh.length := by rw [splitL_flat]; exact List.length_filter_le _ _
  have HN : Hid (numN wh re = { prim := if 1 < (splitL 44 wh).length then ((splitL 44 wh).getD ((splitL 44 wh).length - 1) []).length else 0, sec := if 2 < (splitL 44 wh).length then ((splitL 44 wh).getD ((splitL 44 wh).length - 2) []).length else if 1 < (splitL 44 wh).length then ((splitL 44 wh).getD ((splitL 44 wh).length - 1) []).length else 0, minInt := wh.count 48, minFrac := re.count 48, maxFrac := re.length }) := Lib.hid rfl
  have HS : Hid (shortN wh re = (decide (wh.length - ((splitL 44 wh).length - 1) ≤ 64) && decide (re.length ≤ 64))) := Lib.hid rfl
  have hG1 : 1 ≤ (splitL 44 wh).length := by rw [splitL_len]; omega
  rw [show ((⟨wh.toArray⟩ : ByteArray).data.toList) = wh from rfl]
  generalize splitL 44 wh = gs at *
  have hrow := row_new w1 (gs.map strV) 9
  have hx2 := hx1.alloc_ (.cells (gs.map strV).toArray 9)
  have hG := heap_alloc_new w1 (.cells (gs.map strV).toArray 9)
  have hlt : w1.heap.size < (w1.alloc (.cells (gs.map strV).toArray 9)).heap.size := by simp
  have hg1 : g < w1.heap.size := Nat.lt_of_lt_of_le hb.lt hx1.size
  have hb2 := hb.ext hx2
  have hg0 : g ≤ w.heap.size := Nat.le_of_lt hb.lt
  generalize w1.alloc (.cells (gs.map strV).toArray 9) = w2 at *
  generalize w1.heap.size = G at *
  clear hb hx1 hG
  go_wp2_with fail
  refine (contains_empty _ _ _ _ hrow (by omega)).mono ?_; rintro e w3 ⟨rfl, rfl⟩
  cases hc : gs.contains []
  · have HC := Lib.hid hc
    clear hc
    go_wp2_with fail
    refine (join_ _ _ _ _ hrow hlt (by omega) (Nat.le_refl _) (by omega)).mono ?_; rintro e w3 ⟨rfl, hx3⟩
    go_wp2_with fail
    refine (runs_ _ _ _ (by decide) (by decide) _).mono ?_; rintro e w4 ⟨rfl, rfl⟩
    rw [show ((⟨gs.flatten.toArray⟩ : ByteArray).data.toList) = gs.flatten from rfl]
    cases hr : runsL 35 48 gs.flatten
    · have H0 : Hid (numP s.data.toList = none) := Lib.hid (by rw [HP.out, HW.out, HC.out, hr]; rfl)
      clear hr HP HW HC
      go_wp2_with fail
      refine (must_no _).mono ?_; rintro e w4 ⟨rfl, rfl⟩
      go_wp2
      refine ⟨rfl, ?_⟩
      rw [H0.out]
      exact ⟨rfl, OnlyB.of_ext (hx2.trans hx3)⟩
    · have H1 : Hid (wholeOk wh = true) := Lib.hid (by rw [HW.out, HC.out, hr]; rfl)
      clear hr HW HC
      have hrow3 := hrow.below hx3 (Nat.le_refl _)
      have hb3 := hb2.ext hx3
      have hx4 := hx2.trans hx3
      clear hrow hb2 hx2 hx3 hlt
      go_wp2_with fail
      refine (must_ok _).mono ?_; rintro e w4 ⟨rfl, rfl⟩
      cases pt
      · have HP1 : Hid (numP s.data.toList = some (numN wh re, shortN wh re)) := Lib.hid (by rw [HP.out, H1.out]; rfl)
        clear HP H1
        go_wp2_with fail
        refine (must_ok _).mono ?_; rintro e w4 ⟨rfl, rfl⟩
        --TAIL0
        by_cases n1 : 1 < gs.length
        · have n1' : 1 < (gs.length : Int) := by omega
          have hc1 := strs_cell hrow3 (j := gs.length - 1) (List.getElem?_eq_getElem (by omega))
          have hga : gs.getD (gs.length - 1) [] = gs[gs.length - 1] := by simp [List.getD, List.getElem?_eq_getElem (show gs.length - 1 < gs.length by omega)]
          have HGA := Lib.hid hga
          generalize gs[gs.length - 1]'(by omega) = ga at *
          have HSA : Hid ((⟨ga.toArray⟩ : ByteArray).size = ga.length) := Lib.hid rfl
          have hz1 : ((gs.length : Int) - 1).toNat = gs.length - 1 := by omega
          have hz2 : 0 ≤ (gs.length : Int) - 1 ∧ (gs.length : Int) - 1 < gs.length := by omega
          have hp4 := hb3.cell (j := 4) (v := .int .i64 0) rfl
          have hp5 := hb3.cell (j := 5) (v := .int .i64 0) rfl
          have hf4 := hb3.frozen 4
          have hf5 := hb3.frozen 5
          unfold strV at hc1
          clear hga
          go_upto_region 7 with fail
          go_region
          have hb5 : Box ((w3.setCell ⟨g, 4, none⟩ (.int .i64 ga.length)).setCell ⟨g, 5, none⟩ (.int .i64 ga.length)).drew g 28 (patC S1 S2 S3 S4 ⟨ga.length, ga.length, 0, 0, 0⟩) := ((hb3.setCell 4 (.int .i64 ga.length)).setCell 5 (.int .i64 ga.length)).drew
          have hrow5 : Row ((w3.setCell ⟨g, 4, none⟩ (.int .i64 ga.length)).setCell ⟨g, 5, none⟩ (.int .i64 ga.length)).drew (some ⟨G, 0, none⟩) (gs.map strV) := Row.setOther (Row.setOther hrow3 (by omega)) (by omega)
          have hx5 : OnlyB g w ((w3.setCell ⟨g, 4, none⟩ (.int .i64 ga.length)).setCell ⟨g, 5, none⟩ (.int .i64 ga.length)).drew := (((OnlyB.of_ext hx4).setCell 4 _).setCell 5 _).drew
          generalize ((w3.setCell ⟨g, 4, none⟩ (.int .i64 ga.length)).setCell ⟨g, 5, none⟩ (.int .i64 ga.length)).drew = w5 at *
          clear hb3 hrow3 hx4 hp4 hp5 hf4 hf5 hc1 hz1 hz2
          by_cases n2 : 2 < gs.length
          · have n2' : 2 < (gs.length : Int) := by omega
            have hc1 := strs_cell hrow5 (j := gs.length - 2) (List.getElem?_eq_getElem (by omega))
            have hgb : gs.getD (gs.length - 2) [] = gs[gs.length - 2] := by simp [List.getD, List.getElem?_eq_getElem (show gs.length - 2 < gs.length by omega)]
            have HGB := Lib.hid hgb
            generalize gs[gs.length - 2]'(by omega) = gb at *
            have HSB : Hid ((⟨gb.toArray⟩ : ByteArray).size = gb.length) := Lib.hid rfl
            have HNN : Hid (numN wh re = ⟨ga.length, gb.length, wh.count 48, re.count 48, re.length⟩) := Lib.hid (by rw [HN.out]; simp only [n1, n2, ↓reduceIte, HGA.out, HGB.out])
            have hz1 : ((gs.length : Int) - 2).toNat = gs.length - 2 := by omega
            have hz2 : 0 ≤ (gs.length : Int) - 2 ∧ (gs.length : Int) - 2 < gs.length := by omega
            have hp5 := hb5.cell (j := 5) (v := .int .i64 ga.length) rfl
            have hf5 := hb5.frozen 5
            unfold strV at hc1
            clear hgb HN HGA HGB
            go_wp2_with fail
            have hb6 : Box (w5.setCell ⟨g, 5, none⟩ (.int .i64 gb.length)) g 28 (patC S1 S2 S3 S4 ⟨ga.length, gb.length, 0, 0, 0⟩) := hb5.setCell 5 (.int .i64 gb.length)
            have hx6 : OnlyB g w (w5.setCell ⟨g, 5, none⟩ (.int .i64 gb.length)) := hx5.setCell 5 _
            generalize w5.setCell ⟨g, 5, none⟩ (.int .i64 gb.length) = w6 at *
            clear hb5 hrow5 hx5 hp5 hf5 hc1 hz1 hz2
            refine (Tryz.strings_Count_one _ 48 _).mono ?_; rintro e w7 ⟨rfl, rfl⟩
            go_wp2_with fail
            refine (Tryz.strings_Count_one _ 48 _).mono ?_; rintro e w7 ⟨rfl, rfl⟩
            have hq6 := hb6.cell (j := 6) (v := .int .i64 0) rfl
            have hq7 := hb6.cell (j := 7) (v := .int .i64 0) rfl
            have hq8 := hb6.cell (j := 8) (v := .int .i64 0) rfl
            have hr6 := hb6.frozen 6
            have hr7 := hb6.frozen 7
            have hr8 := hb6.frozen 8
            have HSW : Hid ((⟨wh.toArray⟩ : ByteArray).size = wh.length) := Lib.hid rfl
            have HSR : Hid ((⟨re.toArray⟩ : ByteArray).size = re.length) := Lib.hid rfl
            go_wp2_with fail
            all_goals
              go_ret
              rw [HP1.out, HNN.out]
              refine ⟨ret_bool ?_, ((hb6.setCell 6 _).setCell 7 _).setCell 8 _, ((hx6.setCell 6 _).setCell 7 _).setCell 8 _⟩
              rw [HS.out, Bool.eq_iff_iff]
              simp
              omega
          · have n2' : ¬ 2 < (gs.length : Int) := by omega
            have HNN : Hid (numN wh re = ⟨ga.length, ga.length, wh.count 48, re.count 48, re.length⟩) := Lib.hid (by rw [HN.out]; simp only [n1, n2, ↓reduceIte, HGA.out])
            clear HN HGA hrow5
            have hb6 := hb5
            have hx6 := hx5
            clear hb5 hx5
            go_wp2_with fail
            refine (Tryz.strings_Count_one _ 48 _).mono ?_; rintro e w7 ⟨rfl, rfl⟩
            go_wp2_with fail
            refine (Tryz.strings_Count_one _ 48 _).mono ?_; rintro e w7 ⟨rfl, rfl⟩
            have hq6 := hb6.cell (j := 6) (v := .int .i64 0) rfl
            have hq7 := hb6.cell (j := 7) (v := .int .i64 0) rfl
            have hq8 := hb6.cell (j := 8) (v := .int .i64 0) rfl
            have hr6 := hb6.frozen 6
            have hr7 := hb6.frozen 7
            have hr8 := hb6.frozen 8
            have HSW : Hid ((⟨wh.toArray⟩ : ByteArray).size = wh.length) := Lib.hid rfl
            have HSR : Hid ((⟨re.toArray⟩ : ByteArray).size = re.length) := Lib.hid rfl
            go_wp2_with fail
            all_goals
              go_ret
              rw [HP1.out, HNN.out]
              refine ⟨ret_bool ?_, ((hb6.setCell 6 _).setCell 7 _).setCell 8 _, ((hx6.setCell 6 _).setCell 7 _).setCell 8 _⟩
              rw [HS.out, Bool.eq_iff_iff]
              simp
              omega
        · have n1' : ¬ 1 < (gs.length : Int) := by omega
          have n2' : ¬ 2 < (gs.length : Int) := by omega
          have HNN : Hid (numN wh re = ⟨0, 0, wh.count 48, re.count 48, re.length⟩) := Lib.hid (by rw [HN.out]; simp only [n1, show ¬ 2 < gs.length by omega, ↓reduceIte])
          clear HN hrow3
          have hb6 : Box w3 g 28 (patC S1 S2 S3 S4 ⟨0, 0, 0, 0, 0⟩) := hb3
          have hx6 := OnlyB.of_ext (g := g) hx4
          clear hb3 hx4
          go_wp2_with fail
          refine (Tryz.strings_Count_one _ 48 _).mono ?_; rintro e w7 ⟨rfl, rfl⟩
          go_wp2_with fail
          refine (Tryz.strings_Count_one _ 48 _).mono ?_; rintro e w7 ⟨rfl, rfl⟩
          have hq6 := hb6.cell (j := 6) (v := .int .i64 0) rfl
          have hq7 := hb6.cell (j := 7) (v := .int .i64 0) rfl
          have hq8 := hb6.cell (j := 8) (v := .int .i64 0) rfl
          have hr6 := hb6.frozen 6
          have hr7 := hb6.frozen 7
          have hr8 := hb6.frozen 8
          have HSW : Hid ((⟨wh.toArray⟩ : ByteArray).size = wh.length) := Lib.hid rfl
          have HSR : Hid ((⟨re.toArray⟩ : ByteArray).size = re.length) := Lib.hid rfl
          go_wp2_with fail
          all_goals
            go_ret
            rw [HP1.out, HNN.out]
            refine ⟨ret_bool ?_, ((hb6.setCell 6 _).setCell 7 _).setCell 8 _, ((hx6.setCell 6 _).setCell 7 _).setCell 8 _⟩
            rw [HS.out, Bool.eq_iff_iff]
            simp
            omega
        --END0
      · have HE : Hid (restOk re true = (decide (re ≠ []) && runsL 48 35 re)) := Lib.hid rfl
        have HEE : Hid (decide (re ≠ []) = !re.isEmpty) := Lib.hid (by cases re <;> rfl)
        cases he : re.isEmpty
        · go_wp2_with fail
          refine (runs_ _ 48 35 (by decide) (by decide) _).mono ?_; rintro e w4 ⟨rfl, rfl⟩
          rw [show ((⟨re.toArray⟩ : ByteArray).data.toList) = re from rfl]
          cases hr2 : runsL 48 35 re
          · have H0 : Hid (numP s.data.toList = none) := Lib.hid (by rw [HP.out, H1.out, HE.out, HEE.out, he, hr2]; rfl)
            clear hr2 HP
            go_wp2_with fail
            refine (must_no _).mono ?_; rintro e w4 ⟨rfl, rfl⟩
            go_wp2
            refine ⟨rfl, ?_⟩
            rw [H0.out]
            exact ⟨rfl, OnlyB.of_ext hx4⟩
          · have HP1 : Hid (numP s.data.toList = some (numN wh re, shortN wh re)) := Lib.hid (by rw [HP.out, H1.out, HE.out, HEE.out, he, hr2]; rfl)
            clear hr2 HP H1 HE HEE he
            go_wp2_with fail
            refine (must_ok _).mono ?_; rintro e w4 ⟨rfl, rfl⟩
            --TAIL1
            by_cases n1 : 1 < gs.length
            · have n1' : 1 < (gs.length : Int) := by omega
              have hc1 := strs_cell hrow3 (j := gs.length - 1) (List.getElem?_eq_getElem (by omega))
              have hga : gs.getD (gs.length - 1) [] = gs[gs.length - 1] := by simp [List.getD, List.getElem?_eq_getElem (show gs.length - 1 < gs.length by omega)]
              have HGA := Lib.hid hga
              generalize gs[gs.length - 1]'(by omega) = ga at *
              have HSA : Hid ((⟨ga.toArray⟩ : ByteArray).size = ga.length) := Lib.hid rfl
              have hz1 : ((gs.length : Int) - 1).toNat = gs.length - 1 := by omega
              have hz2 : 0 ≤ (gs.length : Int) - 1 ∧ (gs.length : Int) - 1 < gs.length := by omega
              have hp4 := hb3.cell (j := 4) (v := .int .i64 0) rfl
              have hp5 := hb3.cell (j := 5) (v := .int .i64 0) rfl
              have hf4 := hb3.frozen 4
              have hf5 := hb3.frozen 5
              unfold strV at hc1
              clear hga
              go_upto_region 7 with fail
              go_region
              have hb5 : Box ((w3.setCell ⟨g, 4, none⟩ (.int .i64 ga.length)).setCell ⟨g, 5, none⟩ (.int .i64 ga.length)).drew g 28 (patC S1 S2 S3 S4 ⟨ga.length, ga.length, 0, 0, 0⟩) := ((hb3.setCell 4 (.int .i64 ga.length)).setCell 5 (.int .i64 ga.length)).drew
              have hrow5 : Row ((w3.setCell ⟨g, 4, none⟩ (.int .i64 ga.length)).setCell ⟨g, 5, none⟩ (.int .i64 ga.length)).drew (some ⟨G, 0, none⟩) (gs.map strV) := Row.setOther (Row.setOther hrow3 (by omega)) (by omega)
              have hx5 : OnlyB g w ((w3.setCell ⟨g, 4, none⟩ (.int .i64 ga.length)).setCell ⟨g, 5, none⟩ (.int .i64 ga.length)).drew := (((OnlyB.of_ext hx4).setCell 4 _).setCell 5 _).drew
              generalize ((w3.setCell ⟨g, 4, none⟩ (.int .i64 ga.length)).setCell ⟨g, 5, none⟩ (.int .i64 ga.length)).drew = w5 at *
              clear hb3 hrow3 hx4 hp4 hp5 hf4 hf5 hc1 hz1 hz2
              by_cases n2 : 2 < gs.length
              · have n2' : 2 < (gs.length : Int) := by omega
                have hc1 := strs_cell hrow5 (j := gs.length - 2) (List.getElem?_eq_getElem (by omega))
                have hgb : gs.getD (gs.length - 2) [] = gs[gs.length - 2] := by simp [List.getD, List.getElem?_eq_getElem (show gs.length - 2 < gs.length by omega)]
                have HGB := Lib.hid hgb
                generalize gs[gs.length - 2]'(by omega) = gb at *
                have HSB : Hid ((⟨gb.toArray⟩ : ByteArray).size = gb.length) := Lib.hid rfl
                have HNN : Hid (numN wh re = ⟨ga.length, gb.length, wh.count 48, re.count 48, re.length⟩) := Lib.hid (by rw [HN.out]; simp only [n1, n2, ↓reduceIte, HGA.out, HGB.out])
                have hz1 : ((gs.length : Int) - 2).toNat = gs.length - 2 := by omega
                have hz2 : 0 ≤ (gs.length : Int) - 2 ∧ (gs.length : Int) - 2 < gs.length := by omega
                have hp5 := hb5.cell (j := 5) (v := .int .i64 ga.length) rfl
                have hf5 := hb5.frozen 5
                unfold strV at hc1
                clear hgb HN HGA HGB
                go_wp2_with fail
                have hb6 : Box (w5.setCell ⟨g, 5, none⟩ (.int .i64 gb.length)) g 28 (patC S1 S2 S3 S4 ⟨ga.length, gb.length, 0, 0, 0⟩) := hb5.setCell 5 (.int .i64 gb.length)
                have hx6 : OnlyB g w (w5.setCell ⟨g, 5, none⟩ (.int .i64 gb.length)) := hx5.setCell 5 _
                generalize w5.setCell ⟨g, 5, none⟩ (.int .i64 gb.length) = w6 at *
                clear hb5 hrow5 hx5 hp5 hf5 hc1 hz1 hz2
                refine (Tryz.strings_Count_one _ 48 _).mono ?_; rintro e w7 ⟨rfl, rfl⟩
                go_wp2_with fail
                refine (Tryz.strings_Count_one _ 48 _).mono ?_; rintro e w7 ⟨rfl, rfl⟩
                have hq6 := hb6.cell (j := 6) (v := .int .i64 0) rfl
                have hq7 := hb6.cell (j := 7) (v := .int .i64 0) rfl
                have hq8 := hb6.cell (j := 8) (v := .int .i64 0) rfl
                have hr6 := hb6.frozen 6
                have hr7 := hb6.frozen 7
                have hr8 := hb6.frozen 8
                have HSW : Hid ((⟨wh.toArray⟩ : ByteArray).size = wh.length) := Lib.hid rfl
                have HSR : Hid ((⟨re.toArray⟩ : ByteArray).size = re.length) := Lib.hid rfl
                go_wp2_with fail
                all_goals
                  go_ret
                  rw [HP1.out, HNN.out]
                  refine ⟨ret_bool ?_, ((hb6.setCell 6 _).setCell 7 _).setCell 8 _, ((hx6.setCell 6 _).setCell 7 _).setCell 8 _⟩
                  rw [HS.out, Bool.eq_iff_iff]
                  simp
                  omega
              · have n2' : ¬ 2 < (gs.length : Int) := by omega
                have HNN : Hid (numN wh re = ⟨ga.length, ga.length, wh.count 48, re.count 48, re.length⟩) := Lib.hid (by rw [HN.out]; simp only [n1, n2, ↓reduceIte, HGA.out])
                clear HN HGA hrow5
                have hb6 := hb5
                have hx6 := hx5
                clear hb5 hx5
                go_wp2_with fail
                refine (Tryz.strings_Count_one _ 48 _).mono ?_; rintro e w7 ⟨rfl, rfl⟩
                go_wp2_with fail
                refine (Tryz.strings_Count_one _ 48 _).mono ?_; rintro e w7 ⟨rfl, rfl⟩
                have hq6 := hb6.cell (j := 6) (v := .int .i64 0) rfl
                have hq7 := hb6.cell (j := 7) (v := .int .i64 0) rfl
                have hq8 := hb6.cell (j := 8) (v := .int .i64 0) rfl
                have hr6 := hb6.frozen 6
                have hr7 := hb6.frozen 7
                have hr8 := hb6.frozen 8
                have HSW : Hid ((⟨wh.toArray⟩ : ByteArray).size = wh.length) := Lib.hid rfl
                have HSR : Hid ((⟨re.toArray⟩ : ByteArray).size = re.length) := Lib.hid rfl
                go_wp2_with fail
                all_goals
                  go_ret
                  rw [HP1.out, HNN.out]
                  refine ⟨ret_bool ?_, ((hb6.setCell 6 _).setCell 7 _).setCell 8 _, ((hx6.setCell 6 _).setCell 7 _).setCell 8 _⟩
                  rw [HS.out, Bool.eq_iff_iff]
                  simp
                  omega
            · have n1' : ¬ 1 < (gs.length : Int) := by omega
              have n2' : ¬ 2 < (gs.length : Int) := by omega
              have HNN : Hid (numN wh re = ⟨0, 0, wh.count 48, re.count 48, re.length⟩) := Lib.hid (by rw [HN.out]; simp only [n1, show ¬ 2 < gs.length by omega, ↓reduceIte])
              clear HN hrow3
              have hb6 : Box w3 g 28 (patC S1 S2 S3 S4 ⟨0, 0, 0, 0, 0⟩) := hb3
              have hx6 := OnlyB.of_ext (g := g) hx4
              clear hb3 hx4
              go_wp2_with fail
              refine (Tryz.strings_Count_one _ 48 _).mono ?_; rintro e w7 ⟨rfl, rfl⟩
              go_wp2_with fail
              refine (Tryz.strings_Count_one _ 48 _).mono ?_; rintro e w7 ⟨rfl, rfl⟩
              have hq6 := hb6.cell (j := 6) (v := .int .i64 0) rfl
              have hq7 := hb6.cell (j := 7) (v := .int .i64 0) rfl
              have hq8 := hb6.cell (j := 8) (v := .int .i64 0) rfl
              have hr6 := hb6.frozen 6
              have hr7 := hb6.frozen 7
              have hr8 := hb6.frozen 8
              have HSW : Hid ((⟨wh.toArray⟩ : ByteArray).size = wh.length) := Lib.hid rfl
              have HSR : Hid ((⟨re.toArray⟩ : ByteArray).size = re.length) := Lib.hid rfl
              go_wp2_with fail
              all_goals
                go_ret
                rw [HP1.out, HNN.out]
                refine ⟨ret_bool ?_, ((hb6.setCell 6 _).setCell 7 _).setCell 8 _, ((hx6.setCell 6 _).setCell 7 _).setCell 8 _⟩
                rw [HS.out, Bool.eq_iff_iff]
                simp
                omega
            --END1
        · have H0 : Hid (numP s.data.toList = none) := Lib.hid (by rw [HP.out, H1.out, HE.out, HEE.out, he]; rfl)
          clear HP
          go_wp2_with fail
          refine (must_no _).mono ?_; rintro e w4 ⟨rfl, rfl⟩
          go_wp2
          refine ⟨rfl, ?_⟩
          rw [H0.out]
          exact ⟨rfl, OnlyB.of_ext hx4⟩
  · have H0 : Hid (numP s.data.toList = none) := Lib.hid (by rw [HP.out, HW.out, hc]; rfl)
    clear hc HP HW
    go_wp2_with fail
    refine (must_no _).mono ?_; rintro e w4 ⟨rfl, rfl⟩
    go_wp2
    refine ⟨rfl, ?_⟩
    rw [H0.out]
    exact ⟨rfl, OnlyB.of_ext hx2⟩
end Go.Proofs.YtdkjkbbibdppoaaGreatDoor.Pat
