/- Walks: system.Shape, the laws' own example. -/
import Derived.Test.YtbhmmodphjmlmaaSys3
namespace Go.Proofs.Ytbhmmodphjmlmaa.Sys
open Go.RowKit Utf Small Build
set_option linter.unusedVariables false
set_option linter.unusedSimpArgs false

theorem zeroZ_in (s : ByteArray) (h : 0 ≤ zeroZ s) : ∃ k, k < 20 ∧ zeroZ s = zerosL.getD k 0 := by
  unfold zeroZ at h ⊢
  split at h
  · rename_i i hi
    rw [List.findIdx?_eq_some_iff_getElem] at hi
    obtain ⟨hl, _⟩ := hi
    exact ⟨i, hl, rfl⟩
  · omega
theorem mayC_sys (s : ByteArray) (d : Int) (h : 0 ≤ zeroZ s) (h0 : 0 ≤ d) (h9 : d ≤ 9) : mayC (zeroZ s + d) = true := by
  obtain ⟨k, hk, e⟩ := zeroZ_in s h
  rw [e]
  have : ∀ i : Fin 20, 0 ≤ zerosL.getD i.1 0 ∧ (zerosL.getD i.1 0 + 9 < 55296 ∨ (57343 < zerosL.getD i.1 0 ∧ zerosL.getD i.1 0 + 9 ≤ 1114111)) := by decide
  have := this ⟨k, hk⟩
  dsimp only at this
  exact mayC_of (by omega) (by omega) (by omega)

theorem join_shape (s : ByteArray) (xs : List Int) (h : 0 ≤ zeroZ s) (hd : digOk xs = true) : joinL (xs.map fun d => zeroZ s + d) = shapeB (zeroZ s) xs := by
  unfold joinL shapeB
  rw [List.flatMap_map]
  have : ∀ l : List Int, (∀ d ∈ l, 0 ≤ d ∧ d ≤ 9) → l.flatMap (fun a => Lib.encodeRune (if mayC (zeroZ s + a) = true then zeroZ s + a else 65533)) = l.flatMap fun d => encB (zeroZ s + d) := by
    intro l
    induction l with
    | nil => intro _; rfl
    | cons d l ih =>
      intro hl
      have hd := hl d (by simp)
      have hm := mayC_sys s d h hd.1 hd.2
      rw [List.flatMap_cons, List.flatMap_cons, ih (fun x hx => hl x (by simp [hx])), if_pos hm]
      unfold encB
      rw [if_pos hm]
  refine this xs (fun d hx => ?_)
  unfold digOk at hd
  rw [List.all_eq_true] at hd
  simpa using hd d hx

theorem map_snoc {α : Type} (f : α → Value) (xs : List α) (k : Nat) (hk : k < xs.length) : (xs.take (k + 1)).map f = (xs.take k).map f ++ [f xs[k]] := by
  rw [List.take_succ_eq_append_getElem hk, List.map_append]; rfl

set_option maxHeartbeats 1000000 in
theorem sys_shape (s : ByteArray) (A : Option Addr) (c : Nat) (xs : List Int) (w : World) (hr : Row w A (xs.map (Value.int .i64))) (hl : xs.length ≤ 1000000) :
    Calls Try.prog 30 #[.string s, .slice A xs.length c] w fun e w' => e = .returned (.tuple #[.string ⟨(shapeZ s xs).1.toArray⟩, .int .i64 (shapeZ s xs).2]) ∧ Ext w w' := by
  have HZ := sys_zero s
  rcases noneE_cases s with ⟨hz, hn, hm⟩ | ⟨hz, hz2, hn, hm⟩
  · have HF : Hid (shapeZ s xs = ([], 7)) := Lib.hid (by unfold shapeZ; rw [if_pos (by omega)])
    rw [hn, hm] at HZ
    have HZ' := Lib.hid HZ
    clear HZ hz hn hm
    go_enter Try.func30, Try.ntmps30
    go_wp2_with fail
    refine (HZ'.out _).mono ?_
    rintro e w1 ⟨rfl, hx⟩
    go_wp2
    go_ret2
    exact ⟨by rw [HF.out]; rfl, hx⟩
  rw [hn, hm] at HZ
  have HZ' := Lib.hid HZ
  cases hd : digOk xs
  · have HF : Hid (shapeZ s xs = ([], 1)) := Lib.hid (by unfold shapeZ; rw [if_neg (by omega), hd]; rfl)
    have HD := Lib.hid hd
    clear HZ hn hm hd
    go_enter Try.func30, Try.ntmps30
    go_wp2_with fail
    refine (HZ'.out _).mono ?_
    rintro e w1 ⟨rfl, hx⟩
    go_wp2_with fail
    refine (digit_may _ _ _ _ (hr.below hx (Nat.le_refl _)) (by unfold maxLen; omega)).mono ?_
    rintro e w2 ⟨rfl, rfl⟩; rw [HD.out]
    go_wp2
    go_ret2
    exact ⟨by rw [HF.out]; rfl, hx⟩
  · have HF : Hid (shapeZ s xs = (joinL (xs.map fun d => zeroZ s + d), 0)) := Lib.hid (by rw [join_shape s xs hz hd]; unfold shapeZ; rw [if_neg (by omega), hd]; rfl)
    have HD := Lib.hid hd
    clear HZ hn hm hd
    generalize zeroZ s = z at *
    go_enter Try.func30, Try.ntmps30
    go_wp2_with fail
    refine (HZ'.out _).mono ?_
    rintro e w1 ⟨rfl, hx⟩
    go_wp2_with fail
    refine (digit_may _ _ _ _ (hr.below hx (Nat.le_refl _)) (by unfold maxLen; omega)).mono ?_
    rintro e w2 ⟨rfl, rfl⟩; rw [HD.out]
    go_wp2
    go_loopw [8, 10, 26] (fun v _ i wr => ∃ k : Nat, k ≤ xs.length ∧ i = .int .i64 k ∧ ∃ A c, v = .slice A k c ∧ Acc 3 1 w1 wr A c k ((xs.take k).map fun d => Value.int .i64 (z + d))) (fun _ _ i _ => xs.length - (intOf i).toNat)
    case atStart => exact ⟨0, Nat.zero_le _, rfl, none, 0, rfl, Acc.start _ _ _⟩
    case round =>
      obtain ⟨k, hk, rfl, A', c', rfl, hacc⟩ := hrel
      by_cases hlt : k < xs.length
      · obtain ⟨b, off, rfl, hc⟩ := row_int (hacc.keep (hr.below hx (Nat.le_refl _))) hlt
        have HS := Lib.hid (map_snoc (fun d => Value.int .i64 (z + d)) xs k hlt)
        obtain ⟨d0, d9⟩ := wf_ofDig HD.out hlt
        generalize xs[k] = x at *
        go_wp2_with (at_builtin; refine wp_app ei_int rfl _ _ rfl w1 _ A' c' k _ rfl hacc [.int .i64 (z + x)] 1 1 rfl rfl (by simp [Value.oneCell']) (by omega) (by unfold maxLen; omega) ?_; intro A1 c1 w1 hacc1 _ _; clear hacc)
        go_roundw
        case rel => exact ⟨k + 1, by omega, by go_num, A1, c1, rfl, by rw [HS.out]; exact hacc1⟩
        case measure => simp [intOf]; omega
      · have e : k = xs.length := by omega
        subst e
        rw [List.take_length] at hacc
        have hrow := hacc.row
        have hmm : (xs.map fun d => Value.int .i64 (z + d)) = (xs.map fun d => z + d).map (Value.int .i64) := by rw [List.map_map]; rfl
        rw [hmm] at hrow
        have HL : Hid ((xs.map fun d => z + d).length = xs.length) := Lib.hid (by simp)
        clear hmm
        have hj := utf_join A' c' (xs.map fun d => z + d)
        rw [HL.out] at hj
        have HJ := Lib.hid hj
        clear hj
        go_wp2_with fail
        refine (HJ.out _ hrow (by omega)).mono ?_
        rintro e w3 ⟨rfl, hx3⟩
        go_wp2
        go_ret2
        exact ⟨by rw [HF.out]; rfl, (hacc.ext_of hx).trans hx3⟩

set_option maxHeartbeats 1000000 in
theorem law09_lives (w : World) : Calls Try.prog 23 #[] w fun e w' => e = .returned (.bool true) ∧ Ext w w' := by
  have HS : Hid (shapeZ ⟨#[97, 114, 97, 98]⟩ [1, 2] = ([217, 161, 217, 162], 0)) := Lib.hid (by decide +kernel)
  have hrow := row_new w [.int .i64 1, .int .i64 2] 3
  go_enter Try.func23, Try.ntmps23
  go_wp2_with fail
  refine (sys_shape ⟨#[97, 114, 97, 98]⟩ _ _ [1, 2] _ hrow (by decide)).mono ?_
  rintro e w1 ⟨rfl, hx⟩
  rw [HS.out]
  go_wp2
  go_ret
  exact ⟨rfl, ((Below.refl _ _).alloc (Nat.le_refl _) _).trans (hx.mono (by simp))⟩

theorem nameOf_form (n : Int) : ∃ j, j < 20 ∧ nameOf n = nameAt j ∧ zeroZ (nameOf n) = zerosL.getD j 0 := by
  have h := aroundF_bd n 20 (by omega)
  refine ⟨(aroundF n 20).toNat, by omega, rfl, ?_⟩
  exact zeroZ_nameAt ⟨(aroundF n 20).toNat, by omega⟩
theorem of_name (n d : Int) (h0 : 0 ≤ d) (h9 : d ≤ 9) : ofZ (zeroZ (nameOf n) + d) = (nameOf n, d) := by
  obtain ⟨j, hj, e1, e2⟩ := nameOf_form n
  rw [e2, e1, of_hit _ j hj (by omega) (by omega)]
  congr 1; omega
theorem goodC_bd (n : Int) : 0 ≤ goodC n ∧ goodC n ≤ 1114111 := by
  have := aroundF_bd n 1114112 (by omega)
  unfold goodC
  split
  · omega
  · rename_i h
    have : mayC (aroundF n 1114112) = false := by simpa using h
    unfold mayC at this
    simp at this
    omega

set_option maxHeartbeats 2000000 in
set_option maxRecDepth 100000 in
theorem law09_SystemOf (n d : Int) (w : World) (n1 : -9223372036854775808 ≤ n) (n2 : n ≤ 9223372036854775807) (d1 : -9223372036854775808 ≤ d) (d2 : d ≤ 9223372036854775807) :
    Calls Try.prog 4 #[.int .i64 n, .int .i64 d] w fun e w' => e = .returned (.bool true) ∧ Ext w w' := by
  have hk := aroundF_bd d 10 (by omega)
  have HO := Lib.hid (of_name n (aroundF d 10) hk.1 (by omega))
  have hzb := zeroZ_bd (nameOf n)
  have hgb := goodC_bd n
  go_enter Try.func4, Try.ntmps4
  go_wp2_with fail
  refine (ref_name _ _ n1 n2).mono ?_; rintro e w1 ⟨rfl, hx1⟩
  go_wp2_with fail
  refine (around _ _ _ d1 d2 (by omega) (by omega)).mono ?_; rintro e w2 ⟨rfl, rfl⟩
  go_wp2_with fail
  refine (ref_good _ _ n1 n2).mono ?_; rintro e w2 ⟨rfl, rfl⟩
  go_wp2_with fail
  refine (ref_zero _ _).mono ?_; rintro e w2 ⟨rfl, hx2⟩
  generalize zeroZ (nameOf n) = z at *
  generalize nameOf n = nm at *
  generalize aroundF d 10 = k at *
  generalize goodC n = g at *
  have hrow : Row (w2.alloc (.cells #[.int .i64 n, .int .i64 g, .int .i64 (z + k)] 3)) (some ⟨w2.heap.size, 0, none⟩) ([n, g, z + k].map (Value.int .i64)) := row_new w2 ([n, g, z + k].map (Value.int .i64)) 3
  have hx3 : Ext w2 (w2.alloc (.cells #[.int .i64 n, .int .i64 g, .int .i64 (z + k)] 3)) := (Below.refl _ _).alloc (Nat.le_refl _) _
  go_wp2
  generalize w2.alloc (.cells #[.int .i64 n, .int .i64 g, .int .i64 (z + k)] 3) = w3 at *
  generalize hxs : [n, g, z + k] = xs at *
  have hlen : xs.length = 3 := by rw [← hxs]; rfl
  have HX := Lib.hid hxs
  have HN := Lib.hid hlen
  clear hxs hlen
  generalize w2.heap.size = b at *
  go_loopw [8] (fun i wr => ∃ k : Nat, k ≤ 3 ∧ i = .int .i64 k ∧ Ext w3 wr) (fun i _ => 3 - (intOf i).toNat)
  case atStart => exact ⟨0, Nat.zero_le _, rfl, Ext.refl _⟩
  case round =>
    obtain ⟨q, hq, rfl, hxr⟩ := hrel
    by_cases hlt : q < 3
    · have hq' : q < xs.length := by rw [HN.out]; exact hlt
      have hc := (hrow.below hxr (Nat.le_refl _)).cell00 (k := q) (v := .int .i64 xs[q]) (by simp [hq'])
      generalize xs[q] = x at *
      go_wp2_with fail
      refine (sys_of _ _).mono ?_; rintro e w4 ⟨rfl, hx4⟩
      have hc4 := Ext.cell_ hx4 hc
      go_wp2_with fail
      refine (ref_of _ _).mono ?_; rintro e w5 ⟨rfl, hx5⟩
      generalize (ofZ x).1 = s1 at *
      generalize (ofZ x).2 = s2 at *
      go_wp2
      go_roundw
      case rel => exact ⟨q + 1, by omega, by go_num, (hxr.trans hx4).trans hx5⟩
      case measure => simp [intOf]; omega
    · have hq' : 2 < xs.length := by rw [HN.out]; omega
      have hc := (hrow.below hxr (Nat.le_refl _)).cell00 (k := 2) (v := .int .i64 xs[2]) (by simp [hq'])
      have HE : Hid (xs[2] = z + k) := by
        have := HX.out
        subst this
        exact Lib.hid rfl
      rw [HE.out] at hc
      go_wp2_with fail
      refine (sys_of _ _).mono ?_; rintro e w4 ⟨rfl, hx4⟩
      rw [HO.out]
      go_wp2_with fail
      refine (law09_lives _).mono ?_; rintro e w5 ⟨rfl, hx5⟩
      go_wp2
      go_ret
      exact ⟨rfl, ((((hx1.trans hx2).trans hx3).trans hxr).trans hx4).trans hx5⟩
end Go.Proofs.Ytbhmmodphjmlmaa.Sys
