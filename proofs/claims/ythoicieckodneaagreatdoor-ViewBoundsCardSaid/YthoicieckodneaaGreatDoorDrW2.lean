/- Walks: digits, and a draft, made such as may be; the document's atoms. -/
import Derived.Test.YthoicieckodneaaGreatDoorDrW
import Derived.Test.YthoicieckodneaaGreatDoorItW1
import Derived.Test.YthoicieckodneaaGreatDoorJLocE
import Derived.Deep.RegionHeld3
namespace Go.Proofs.YthoicieckodneaaGreatDoor.Loc
open Go.RowKit Utf All Small Strs Build EncC Pat Cls Dec Go.Proofs.YthoicieckodneaaGreatDoor.Sys
set_option linter.unusedVariables false
set_option linter.unusedSimpArgs false

theorem infoD14 : (Tryz.prog.info? 26).map (·.size) = some 4 := by kernel_rfl
theorem ints_one (xs : List Int) : ∀ u ∈ xs.map (Value.int .i64), u.oneCell' = true := by
  intro u hu
  obtain ⟨x, _, rfl⟩ := List.mem_map.1 hu
  rfl
/-- numbers stand elsewhere than a block without any -/
theorem ints_apart {w : World} {b : Nat} {T : TypeId} {cs : List Value} {A : Option Addr} {xs : List Int} (hb : Box w b T cs) (hr : Row w A (xs.map (Value.int .i64))) (hno : ∀ v ∈ cs, isInt v = false) {w' : World}
    (hw : ∀ k off, k ≠ b → w'.cell? ⟨k, off, none⟩ = w.cell? ⟨k, off, none⟩) : Row w' A (xs.map (Value.int .i64)) := by
  rcases hr with h | ⟨b', off, rfl, hc⟩
  · exact .inl h
  · cases xs with
    | nil => exact .inl rfl
    | cons x r =>
      have hne : b' ≠ b := by
        intro e
        subst e
        have h0 := hc 0 (.int .i64 x) rfl
        rw [cell_of_row w b' _ _ T (0, 0) hb, List.getElem?_toArray] at h0
        have := hno _ (List.mem_of_getElem? h0)
        simp [isInt] at this
      exact .inr ⟨b', off, rfl, fun j v hv => (hw _ _ hne).trans (hc j v hv)⟩
theorem ints_setRow {w : World} {b : Nat} {T : TypeId} {cs : List Value} {A : Option Addr} {xs : List Int} (hb : Box w b T cs) (hr : Row w A (xs.map (Value.int .i64))) (hno : ∀ v ∈ cs, isInt v = false) (ds : Array Value) : Row (w.setRow b ds) A (xs.map (Value.int .i64)) :=
  ints_apart hb hr hno fun k _ hk => World.cell?_of_block (setRow_other w b k ds hk)
theorem ints_setCell {w : World} {b : Nat} {T : TypeId} {cs : List Value} {A : Option Addr} {xs : List Int} (hb : Box w b T cs) (hr : Row w A (xs.map (Value.int .i64))) (hno : ∀ v ∈ cs, isInt v = false) (j : Nat) (v : Value) : Row (w.setCell ⟨b, j, none⟩ v) A (xs.map (Value.int .i64)) :=
  ints_apart hb hr hno fun k _ hk => World.cell?_of_block (heap_setCell_other w _ k v hk)
set_option maxHeartbeats 2000000 in
set_option maxRecDepth 100000 in
theorem ref05_good (A : Option Addr) (n c : Nat) (xs : List Int) (m : Nat) (w : World) (hr : Row w A (xs.map (Value.int .i64))) (hn : xs.length = n) (hm : m ≤ 100) (hx : ∀ x ∈ xs, i64 x) :
    Calls Tryz.prog 49 #[.slice A n c, .int .i64 (m : Int)] w fun e w' => ∃ E c', e = .returned (.slice E (goodL xs m).length c') ∧ Acc 3 1 w w' E c' (goodL xs m).length ((goodL xs m).map (Value.int .i64)) := by
  have HR := Lib.hid hr
  have HN := Lib.hid hn
  have HX := Lib.hid hx
  have HSN : Hid (∀ k (hk : k < xs.length), ((xs.take (k + 1)).map (fun x => aroundF x 10)).map (Value.int .i64) = ((xs.take k).map (fun x => aroundF x 10)).map (Value.int .i64) ++ [.int .i64 (aroundF xs[k] 10)]) := Lib.hid fun k hk => by
    rw [goodL_snoc xs hk, List.map_append]; rfl
  have HEND : Hid (∀ k, k ≤ xs.length → k ≤ m → (k = xs.length ∨ k = m) → goodL xs m = (xs.take k).map (fun x => aroundF x 10) ∧ (goodL xs m).length = k) := Lib.hid fun k h1 h2 h3 => by
    have e : goodL xs m = (xs.take k).map (fun x => aroundF x 10) := by
      unfold goodL
      rcases h3 with h3 | h3
      · rw [List.take_of_length_le (by omega), List.take_of_length_le (by omega)]
      · rw [h3]
    exact ⟨e, by rw [e, List.length_map, List.length_take]; omega⟩
  clear hr hn hx
  go_enter Tryz.func49, Tryz.ntmps49
  go_wp2
  go_loopw [5, 6] (fun v i wr => ∃ (k : Nat) (E : Option Addr) (c' : Nat), k ≤ n ∧ k ≤ m ∧ i = .int .i64 k ∧ v = .slice E k c' ∧ Acc 3 1 w wr E c' k (((xs.take k).map (fun x => aroundF x 10)).map (Value.int .i64))) (fun _ i _ => n - (intOf i).toNat)
  case atStart => exact ⟨0, none, 0, Nat.zero_le _, Nat.zero_le _, rfl, rfl, Acc.start _ _ _⟩
  case round =>
    obtain ⟨k, E, c', hk, hkm, rfl, rfl, hacc⟩ := hrel
    have HA := Lib.hid hacc
    by_cases hlt : k < n
    · have i1 : (k : Int) < (n : Int) := by omega
      by_cases hlt2 : k < m
      · have i2 : (k : Int) < (m : Int) := by omega
        have hkq : k < xs.length := by have := HN.out; omega
        have HS := Lib.hid (HSN.out k hkq)
        obtain ⟨bx, ox, rfl, hc⟩ := row_ints (HR.out.below hacc.ext (Nat.le_refl _)) hkq
        have hxx := HX.out _ (List.getElem_mem hkq)
        have hgd : xs.getD k 0 = xs[k] := by rw [List.getD_eq_getElem?_getD, List.getElem?_eq_getElem hkq]; rfl
        rw [hgd] at hc
        generalize ((xs.take k).map (fun x => aroundF x 10)).map (Value.int .i64) = out at *
        clear hgd
        generalize xs[k] = x at *
        obtain ⟨hx1, hx2⟩ := hxx
        have i3 : (0 : Int) ≤ (k : Int) := by omega
        clear hacc
        go_wp2_with (first
          | (go_at_call 38; refine (around _ _ _ hx1 hx2 (by omega) (by omega)).mono ?_; rintro e w5 ⟨rfl, rfl⟩)
          | (at_builtin; refine wp_app ei_int rfl (.tmp 18) (.tmp 24) rfl w _ E c' k _ rfl HA.out [.int .i64 (aroundF x 10)] 1 1 rfl rfl (by simp [Value.oneCell']) (by omega) (by unfold maxLen; omega) ?_; intro A1 c1 w6 hA6 _ _))
        exact ⟨⟨k + 1, A1, c1, by omega, by omega, by go_num, rfl, by rw [HS.out]; exact hA6⟩, by simp [intOf]; omega⟩
      · have i2 : ¬ ((k : Int) < (m : Int)) := by omega
        obtain ⟨h1, h2⟩ := HEND.out k (by have := HN.out; omega) hkm (.inr (by omega))
        have HE1 := Lib.hid h1
        have HE2 := Lib.hid h2
        clear h1 h2 hacc
        go_wp2
        go_ret
        exact ⟨E, c', by rw [HE2.out]; first | done | rfl, by rw [HE2.out, HE1.out]; exact HA.out⟩
    · have i1 : ¬ ((k : Int) < (n : Int)) := by omega
      obtain ⟨h1, h2⟩ := HEND.out k (by have := HN.out; omega) hkm (.inl (by have := HN.out; omega))
      have HE1 := Lib.hid h1
      have HE2 := Lib.hid h2
      clear h1 h2 hacc
      go_wp2
      go_ret
      exact ⟨E, c', by rw [HE2.out]; first | done | rfl, by rw [HE2.out, HE1.out]; exact HA.out⟩
theorem ints_set4 {w : World} {b : Nat} {T : TypeId} {A : Option Addr} {xs : List Int} {v0 v1 v2 v3 : Value} (hb : Box w b T [.bool false, .slice none 0 0, .bool false, .slice none 0 0]) (hr : Row w A (xs.map (Value.int .i64))) : Row ((((w.setCell ⟨b, 0, none⟩ v0).setCell ⟨b, 1, none⟩ v1).setCell ⟨b, 2, none⟩ v2).setCell ⟨b, 3, none⟩ v3) A (xs.map (Value.int .i64)) :=
  ints_apart hb hr (by simp [isInt]) fun k _ hk => World.cell?_of_block ((heap_setCell_other _ _ k v3 hk).trans ((heap_setCell_other _ _ k v2 hk).trans ((heap_setCell_other _ _ k v1 hk).trans (heap_setCell_other w _ k v0 hk))))
def zeroD : List Value := [.bool false, .slice none 0 0, .bool false, .slice none 0 0]
theorem box4 {w : World} {b : Nat} {T : TypeId} {v0 v1 v2 v3 : Value} (h : Box w b T [v0, v1, v2, v3]) : w.cell? ⟨b, 0, none⟩ = some v0 ∧ w.cell? ⟨b, 1, none⟩ = some v1 ∧ w.cell? ⟨b, 2, none⟩ = some v2 ∧ w.cell? ⟨b, 3, none⟩ = some v3 ∧ w.frozen? ⟨b, 0, none⟩ = false ∧ w.frozen? ⟨b, 1, none⟩ = false ∧ w.frozen? ⟨b, 2, none⟩ = false ∧ w.frozen? ⟨b, 3, none⟩ = false :=
  ⟨h.cell (j := 0) rfl, h.cell (j := 1) rfl, h.cell (j := 2) rfl, h.cell (j := 3) rfl, h.frozen 0, h.frozen 1, h.frozen 2, h.frozen 3⟩
set_option maxHeartbeats 2000000 in
set_option maxRecDepth 100000 in
theorem ref14_atoms (X Y : Option Addr) (cx cy : Nat) (d : Dr) (w : World) (hd : DrR w X Y d) (ox : Okc X cx) (oy : Okc Y cy) (h1 : d.int.length ≤ 100) (h2 : d.frac.length ≤ 100) :
    Calls Tryz.prog 18 #[.agg (drV X cx Y cy d).toArray] w fun e w' => ∃ E c', e = .returned (.slice E (atomsF d).length c') ∧ Acc 3 1 w w' E c' (atomsF d).length ((atomsF d).map (Value.int .i64)) := by
  have HAT : Hid (atomsF d = d.int ++ ((if d.sep then [10] else []) ++ d.frac)) := Lib.hid rfl
  have b1 := Box.new w 26 (drV X cx Y cy d)
  have hx1 : Ext w (w.alloc (.cells (drV X cx Y cy d).toArray 26)) := Ext.alloc_ (Ext.refl w) _
  have hd1 := hd.ext hx1
  generalize atomsF d = at_ at *
  obtain ⟨neg, xs, sep, ys⟩ := d
  have HD := Lib.hid hd1
  have HB := Lib.hid b1
  have HX1 := Lib.hid hx1
  have k1 := b1.cell (j := 1) (v := .slice X xs.length cx) rfl
  have k2 := b1.cell (j := 2) (v := .bool sep) rfl
  simp only at h1 h2 HAT
  clear hd hd1 b1 hx1
  go_enter Tryz.func18, Tryz.ntmps18
  go_upto_region 1 with fail
  change Code.wp _ _ _ _ (w.alloc (.cells (drV X cx Y cy ⟨neg, xs, sep, ys⟩).toArray 26))
  generalize w.alloc (.cells (drV X cx Y cy ⟨neg, xs, sep, ys⟩).toArray 26) = w1 at *
  generalize w.heap.size = db at *
  have hacc0 := Acc.start 3 1 w1
  go_upto_region 3 with (at_builtin; refine wp_src ei_int rfl (.tmp 4) (.tmp 6) rfl w1 _ none 0 0 [] rfl hacc0 X xs.length cx (xs.map (Value.int .i64)) rfl HD.out.int ox (by simp) (ints_one xs) (by omega) (by unfold maxLen; omega) ?_; intro A1 c1 w2 hA2 _; rw [Nat.zero_add, List.nil_append] at hA2)
  have HA2 := Lib.hid hA2
  have k2 := Ext.cell_ hA2.ext k2
  have k3 := (HB.out.ext hA2.ext).cell (j := 3) (v := .slice Y ys.length cy) rfl
  have hry := HD.out.frac.below hA2.ext (Nat.le_refl _)
  have HRY := Lib.hid hry
  clear hA2 hacc0 k1 hry
  cases sep
  · have HT : Hid (at_ = xs ++ ys) := Lib.hid (by rw [HAT.out]; rfl)
    go_wp2_with (at_builtin; refine wp_src ei_int rfl (.tmp 13) (.tmp 15) rfl w1 _ A1 c1 xs.length _ rfl HA2.out Y ys.length cy (ys.map (Value.int .i64)) rfl HRY.out oy (by simp) (ints_one ys) (by omega) (by unfold maxLen; omega) ?_; intro A3 c3 w3 hA3 _)
    go_ret
    exact ⟨A3, c3, by rw [HT.out, List.length_append]; first | done | rfl, by rw [HT.out, List.length_append, List.map_append]; exact hA3.base HX1.out⟩
  · have HT : Hid (at_ = xs ++ [10] ++ ys) := Lib.hid (by rw [HAT.out]; simp)
    go_wp2_with (first
      | (at_builtin; refine wp_app ei_int rfl (.tmp 10) (.tmp 11) rfl w1 _ A1 c1 xs.length _ rfl HA2.out [.int .i64 10] 1 1 rfl rfl (by simp [Value.oneCell']) (by omega) (by unfold maxLen; omega) ?_; intro A2 c2 w4 hA4 _ _; have hA4 := Lib.hid hA4; have k3 := (HB.out.ext hA4.out.ext).cell (j := 3) (v := .slice Y ys.length cy) rfl; have HRY := Lib.hid (HD.out.frac.below hA4.out.ext (Nat.le_refl _)))
      | (at_builtin; refine wp_src ei_int rfl (.tmp 13) (.tmp 15) rfl w1 _ A2 c2 (xs.length + 1) _ rfl hA4.out Y ys.length cy (ys.map (Value.int .i64)) rfl HRY.out oy (by simp) (ints_one ys) (by omega) (by unfold maxLen; omega) ?_; intro A3 c3 w3 hA3 _))
    go_ret
    exact ⟨A3, c3, by rw [HT.out, List.length_append, List.length_append]; first | done | rfl, by rw [HT.out, List.length_append, List.length_append, List.map_append, List.map_append]; exact hA3.base HX1.out⟩
end Go.Proofs.YthoicieckodneaaGreatDoor.Loc
