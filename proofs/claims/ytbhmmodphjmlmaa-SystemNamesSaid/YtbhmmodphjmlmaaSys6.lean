/- Walks: the digits of bytes. -/
import Derived.Test.YtbhmmodphjmlmaaSys5
import Derived.Test.YtbhmmodphjmlmaaAll
namespace Go.Proofs.Ytbhmmodphjmlmaa.Sys
open Go.RowKit Utf Small Build All
set_option linter.unusedVariables false
set_option linter.unusedSimpArgs false

/-- the digits of bytes, and the error -/
def readC (z : Int) (cs : List Int) : List Int × Int := if cs.all fun c => decide (0 ≤ valZ z c) then (cs.map (valZ z), 0) else ([], 2)
def readZ (s : ByteArray) (l : List UInt8) : List Int × Int := if zeroZ s < 0 then ([], 7) else readC (zeroZ s) (charsL l)
def goodP (z : Int) (c : Int) : Bool := decide (0 ≤ valZ z c)
theorem all_snoc {α : Type} (p : α → Bool) (xs : List α) (k : Nat) (hk : k < xs.length) : (xs.take (k + 1)).all p = ((xs.take k).all p && p xs[k]) := by
  rw [List.take_succ_eq_append_getElem hk, List.all_append]; simp
theorem all_bad {α : Type} (p : α → Bool) (xs : List α) (k : Nat) (hk : k < xs.length) (h : p xs[k] = false) : xs.all p = false := by
  rw [List.all_eq_false]; exact ⟨xs[k], List.getElem_mem hk, by simp [h]⟩
theorem readC_bad (z : Int) (cs : List Int) (k : Nat) (hk : k < cs.length) (h : goodP z cs[k] = false) : readC z cs = ([], 2) := by
  unfold readC
  have := all_bad (goodP z) cs k hk h
  unfold goodP at this
  rw [this]; rfl
theorem readC_good (z : Int) (cs : List Int) (h : cs.all (goodP z) = true) : readC z cs = (cs.map (valZ z), 0) := by
  unfold readC
  unfold goodP at h
  rw [h]; rfl

set_option maxHeartbeats 2000000 in
set_option maxRecDepth 100000 in
theorem ref_read (s t : ByteArray) (w : World) (ht : t.size ≤ 1000000000000) :
    Calls Try.prog 34 #[.string s, .string t] w fun e w' => ∃ A c, e = .returned (.tuple #[.slice A (readZ s t.data.toList).1.length c, .int .i64 (readZ s t.data.toList).2]) ∧ Row w' A ((readZ s t.data.toList).1.map (Value.int .i64)) ∧ Ext w w' := by
  have hb := zeroZ_bd s
  by_cases h0 : zeroZ s < 0
  · have HF : Hid (readZ s t.data.toList = ([], 7)) := Lib.hid (by unfold readZ; rw [if_pos h0])
    go_enter Try.func34, Try.ntmps34
    go_wp2_with fail
    refine (ref_zero _ _).mono ?_; rintro e w1 ⟨rfl, hx1⟩
    generalize zeroZ s = z at *
    go_wp2
    go_ret2
    exact ⟨none, 0, by rw [HF.out]; rfl, .inl (by rw [HF.out]; rfl), hx1⟩
  · have HF : Hid (readZ s t.data.toList = readC (zeroZ s) (charsL t.data.toList)) := Lib.hid (by unfold readZ; rw [if_neg h0])
    have h0' : 0 ≤ zeroZ s := by omega
    have HCL : Hid ((charsL t.data.toList).length ≤ 1000000000000) := Lib.hid (by
      have h1 := pieces_len _ t.data.toList (Nat.le_refl _)
      have h2 := data_len t
      unfold charsL; rw [List.length_map]; omega)
    clear h0
    generalize hz : zeroZ s = z at *
    have HZ := Lib.hid hz
    clear hz
    go_enter Try.func34, Try.ntmps34
    go_wp2_with fail
    refine (ref_zero _ _).mono ?_; rintro e w1 ⟨rfl, hx1⟩
    rw [HZ.out]
    go_wp2_with fail
    refine (ref_all _ _ ht).mono ?_; rintro e w2 ⟨A, c, B, d, rfl, hrow, _, hx2⟩
    generalize startsL t.data.toList = st at *
    generalize validL t.data.toList = vl at *
    generalize charsL t.data.toList = cs at *
    have hcl : cs.length ≤ 1000000000000 := HCL.out
    go_wp2
    go_loopw [9, 10] (fun v i wr => ∃ k : Nat, k ≤ cs.length ∧ i = .int .i64 k ∧ ∃ A c, v = .slice A k c ∧ Acc 3 1 w2 wr A c k ((cs.take k).map fun x => Value.int .i64 (valZ z x)) ∧ Hid ((cs.take k).all (goodP z) = true)) (fun _ i _ => cs.length - (intOf i).toNat)
    case atStart => exact ⟨0, Nat.zero_le _, rfl, none, 0, rfl, Acc.start _ _ _, Lib.hid rfl⟩
    case round =>
      obtain ⟨k, hk, rfl, A', c', rfl, hacc, HK⟩ := hrel
      by_cases hlt : k < cs.length
      · obtain ⟨b, off, rfl, hc⟩ := row_int (hacc.keep hrow) hlt
        have HS := Lib.hid (map_snoc (fun x => Value.int .i64 (valZ z x)) cs k hlt)
        have HT := Lib.hid (all_snoc (goodP z) cs k hlt)
        have HB := Lib.hid (readC_bad z cs k hlt)
        have HG : Hid (goodP z cs[k] = decide (0 ≤ valZ z cs[k])) := Lib.hid rfl
        generalize cs[k] = x at *
        go_wp2_with fail
        refine (ref_value _ _ _).mono ?_; rintro e w3 ⟨rfl, hx3⟩
        rw [HZ.out]
        have hacc2 := hacc.step hx3
        clear hacc
        generalize valZ z x = v at *
        by_cases hv : v < 0
        · have HR : Hid (readZ s t.data.toList = ([], 2)) := Lib.hid (by rw [HF.out, HB.out (by rw [HG.out]; simp; omega)])
          go_wp2
          go_ret2
          exact ⟨none, 0, by rw [HR.out]; rfl, .inl (by rw [HR.out]; rfl), (hx1.trans hx2).trans hacc2.ext⟩
        · have hv' : 0 ≤ v := by omega
          have HT2 : Hid ((cs.take (k + 1)).all (goodP z) = true) := Lib.hid (by rw [HT.out, HK.out, HG.out]; simpa using hv')
          clear hv
          go_wp2_with (at_builtin; refine wp_app ei_int rfl _ _ rfl w2 _ A' c' k _ rfl hacc2 [.int .i64 v] 1 1 rfl rfl (by simp [Value.oneCell']) (by omega) (by unfold maxLen; omega) ?_; intro A1 c1 w4 hacc1 _ _; clear hacc2)
          go_roundw
          case rel => exact ⟨k + 1, by omega, by go_num, A1, c1, rfl, by rw [HS.out]; exact hacc1, HT2⟩
          case measure => simp [intOf]; omega
      · have e : k = cs.length := by omega
        subst e
        rw [List.take_length] at hacc HK
        have HR : Hid (readZ s t.data.toList = (cs.map (valZ z), 0)) := Lib.hid (by rw [HF.out, readC_good z cs HK.out])
        have hrow2 := hacc.row
        go_wp2
        go_ret2
        exact ⟨A', c', by rw [HR.out]; simp, by rw [HR.out, List.map_map]; exact hrow2, (hx1.trans hx2).trans hacc.ext⟩

theorem valE_good (s : ByteArray) (c : Int) (h : 0 ≤ zeroZ s) : (goodP (zeroZ s) c = true ∧ valE s c = 0 ∧ max (valZ (zeroZ s) c) 0 = valZ (zeroZ s) c) ∨ (goodP (zeroZ s) c = false ∧ valE s c = 2) := by
  unfold goodP
  rcases val_cases s c h with ⟨h1, h2⟩ | ⟨h1, h2⟩
  · exact .inl ⟨by simpa using h2, h1, by omega⟩
  · exact .inr ⟨by rw [h2]; decide, h1⟩

set_option maxHeartbeats 2000000 in
set_option maxRecDepth 100000 in
theorem sys_read (s t : ByteArray) (w : World) (ht : t.size ≤ 1000000000000) :
    Calls Try.prog 32 #[.string s, .string t] w fun e w' => ∃ A c, e = .returned (.tuple #[.slice A (readZ s t.data.toList).1.length c, .int .i64 (readZ s t.data.toList).2]) ∧ Row w' A ((readZ s t.data.toList).1.map (Value.int .i64)) ∧ Ext w w' := by
  have HZ := sys_zero s
  rcases noneE_cases s with ⟨hz, hn, hm⟩ | ⟨hz, hz2, hn, hm⟩
  · have HF : Hid (readZ s t.data.toList = ([], 7)) := Lib.hid (by unfold readZ; rw [if_pos (by omega)])
    rw [hn, hm] at HZ
    have HZ' := Lib.hid HZ
    clear HZ hz hn hm
    go_enter Try.func32, Try.ntmps32
    go_wp2_with fail
    refine (HZ'.out _).mono ?_; rintro e w1 ⟨rfl, hx1⟩
    go_wp2
    go_ret2
    exact ⟨none, 0, by rw [HF.out]; rfl, .inl (by rw [HF.out]; rfl), hx1⟩
  · have HF : Hid (readZ s t.data.toList = readC (zeroZ s) (charsL t.data.toList)) := Lib.hid (by unfold readZ; rw [if_neg (by omega)])
    have HCL : Hid ((charsL t.data.toList).length ≤ 1000000000000) := Lib.hid (by
      have h1 := pieces_len _ t.data.toList (Nat.le_refl _)
      have h2 := data_len t
      unfold charsL; rw [List.length_map]; omega)
    have HVG : Hid (∀ c, (goodP (zeroZ s) c = true ∧ valE s c = 0 ∧ max (valZ (zeroZ s) c) 0 = valZ (zeroZ s) c) ∨ (goodP (zeroZ s) c = false ∧ valE s c = 2)) := Lib.hid fun c => valE_good s c hz
    rw [hn, hm] at HZ
    have HZ' := Lib.hid HZ
    clear HZ hn hm
    generalize hzz : zeroZ s = z at *
    have HZZ := Lib.hid hzz
    clear hzz
    go_enter Try.func32, Try.ntmps32
    go_wp2_with fail
    refine (HZ'.out _).mono ?_; rintro e w1 ⟨rfl, hx1⟩
    go_wp2_with fail
    refine (utf_all _ _ (by omega)).mono ?_; rintro e w2 ⟨A, c, rfl, hrow, _, _, hx2⟩
    generalize charsL t.data.toList = cs at *
    have hcl : cs.length ≤ 1000000000000 := HCL.out
    go_wp2
    go_loopw [8, 10, 11, 12, 24] (fun v _ _ _ i wr => ∃ k : Nat, k ≤ cs.length ∧ i = .int .i64 k ∧ ∃ A c, v = .slice A k c ∧ Acc 3 1 w2 wr A c k ((cs.take k).map fun x => Value.int .i64 (valZ z x)) ∧ Hid ((cs.take k).all (goodP z) = true)) (fun _ _ _ _ i _ => cs.length - (intOf i).toNat)
    case atStart => exact ⟨0, Nat.zero_le _, rfl, none, 0, rfl, Acc.start _ _ _, Lib.hid rfl⟩
    case round =>
      obtain ⟨k, hk, rfl, A', c', rfl, hacc, HK⟩ := hrel
      by_cases hlt : k < cs.length
      · obtain ⟨b, off, rfl, hc⟩ := row_int (hacc.keep hrow) hlt
        have HS := Lib.hid (map_snoc (fun x => Value.int .i64 (valZ z x)) cs k hlt)
        have HT := Lib.hid (all_snoc (goodP z) cs k hlt)
        have HB := Lib.hid (readC_bad z cs k hlt)
        generalize cs[k] = x at *
        have HV := HVG.out x
        go_wp2_with fail
        refine (sys_value _ _ _).mono ?_; rintro e w3 ⟨rfl, hx3⟩
        rw [HZZ.out]
        have hacc2 := hacc.step hx3
        clear hacc
        generalize valE s x = ve at *
        generalize max (valZ z x) 0 = vm at *
        generalize valZ z x = v at *
        rcases HV with ⟨hg, rfl, rfl⟩ | ⟨hg, rfl⟩
        · have HT2 : Hid ((cs.take (k + 1)).all (goodP z) = true) := Lib.hid (by rw [HT.out, HK.out, hg]; rfl)
          clear hg
          go_wp2_with (at_builtin; refine wp_app ei_int rfl _ _ rfl w2 _ A' c' k _ rfl hacc2 [.int .i64 vm] 1 1 rfl rfl (by simp [Value.oneCell']) (by omega) (by unfold maxLen; omega) ?_; intro A1 c1 w4 hacc1 _ _; clear hacc2)
          go_roundw
          case rel => exact ⟨k + 1, by omega, by go_num, A1, c1, rfl, by rw [HS.out]; exact hacc1, HT2⟩
          case measure => simp [intOf]; omega
        · have HR : Hid (readZ s t.data.toList = ([], 2)) := Lib.hid (by rw [HF.out, HB.out hg])
          clear hg
          go_wp2
          go_ret2
          exact ⟨none, 0, by rw [HR.out]; rfl, .inl (by rw [HR.out]; rfl), (hx1.trans hx2).trans hacc2.ext⟩
      · have e : k = cs.length := by omega
        subst e
        rw [List.take_length] at hacc HK
        have HR : Hid (readZ s t.data.toList = (cs.map (valZ z), 0)) := Lib.hid (by rw [HF.out, readC_good z cs HK.out])
        have hrow2 := hacc.row
        go_wp2
        go_ret2
        exact ⟨A', c', by rw [HR.out]; simp, by rw [HR.out, List.map_map]; exact hrow2, (hx1.trans hx2).trans hacc.ext⟩
end Go.Proofs.Ytbhmmodphjmlmaa.Sys
