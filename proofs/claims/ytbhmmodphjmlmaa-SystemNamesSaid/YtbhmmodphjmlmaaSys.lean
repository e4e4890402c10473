/- Walks: systems of digits, the document's side. -/
import Derived.Test.YtbhmmodphjmlmaaBuild
namespace Go.Proofs.Ytbhmmodphjmlmaa.Sys
open Go.RowKit Utf Small Build
set_option linter.unusedVariables false
set_option linter.unusedSimpArgs false

/-- the systems' names -/
def names : List ByteArray := [⟨#[97, 114, 97, 98]⟩, ⟨#[97, 114, 97, 98, 101, 120, 116]⟩, ⟨#[98, 101, 110, 103]⟩, ⟨#[100, 101, 118, 97]⟩, ⟨#[102, 117, 108, 108, 119, 105, 100, 101]⟩, ⟨#[103, 117, 106, 114]⟩, ⟨#[103, 117, 114, 117]⟩, ⟨#[107, 104, 109, 114]⟩, ⟨#[107, 110, 100, 97]⟩, ⟨#[108, 97, 111, 111]⟩, ⟨#[108, 97, 116, 110]⟩, ⟨#[109, 97, 116, 104, 115, 97, 110, 98]⟩, ⟨#[109, 108, 121, 109]⟩, ⟨#[109, 111, 110, 103]⟩, ⟨#[109, 121, 109, 114]⟩, ⟨#[111, 114, 121, 97]⟩, ⟨#[116, 97, 109, 108, 100, 101, 99]⟩, ⟨#[116, 101, 108, 117]⟩, ⟨#[116, 104, 97, 105]⟩, ⟨#[116, 105, 98, 116]⟩]
/-- their noughts -/
def zerosL : List Int := [1632, 1776, 2534, 2406, 65296, 2790, 2662, 6112, 3302, 3792, 48, 120812, 3430, 6160, 4160, 2918, 3046, 3174, 3664, 3872]
/-- the nought of a name, -1: there is none -/
def zeroZ (s : ByteArray) : Int := match names.findIdx? (fun n => decide (n = s)) with | some i => zerosL.getD i 0 | none => -1

set_option maxHeartbeats 1000000 in
theorem ref_names (w : World) : Calls Try.prog 47 #[] w fun e w' => ∃ A, e = .returned (.slice A 20 20) ∧ Row w' A (names.map Value.string) ∧ Ext w w' := by
  go_enter Try.func47, Try.ntmps47
  go_wp2
  go_ret
  exact ⟨_, rfl, row_new w (names.map Value.string) 9, (Below.refl _ _).alloc (Nat.le_refl _) _⟩
set_option maxHeartbeats 1000000 in
theorem ref_noughts (w : World) : Calls Try.prog 49 #[] w fun e w' => ∃ A, e = .returned (.slice A 20 20) ∧ Row w' A (zerosL.map (Value.int .i64)) ∧ Ext w w' := by
  go_enter Try.func49, Try.ntmps49
  go_wp2
  go_ret
  exact ⟨_, rfl, row_new w (zerosL.map (Value.int .i64)) 3, (Below.refl _ _).alloc (Nat.le_refl _) _⟩

theorem row_str {w : World} {A : Option Addr} {xs : List ByteArray} (h : Row w A (xs.map Value.string)) {k : Nat} (hk : k < xs.length) :
    ∃ b off, A = some ⟨b, off, none⟩ ∧ w.cell? ⟨b, off + k, none⟩ = some (.string xs[k]) := by
  obtain ⟨b, off, e, hc⟩ := h.at_ (k := k) (by simpa using hk)
  exact ⟨b, off, e, hc k _ (by simp [hk])⟩
theorem names_len : names.length = 20 := rfl
theorem zerosL_len : zerosL.length = 20 := rfl
theorem zeroZ_at (s : ByteArray) (k : Nat) (hk : k < 20) (h : (names.take k).any (fun n => decide (n = s)) = false) (hp : decide (names[k]'hk = s) = true) : zeroZ s = zerosL[k]'hk := by
  unfold zeroZ
  have : names.findIdx? (fun n => decide (n = s)) = some k := by
    rw [List.findIdx?_eq_some_iff_getElem]
    refine ⟨hk, hp, fun j hj => ?_⟩
    rw [List.any_eq_false] at h
    have hn : names.length = 20 := rfl
    have := h (names[j]'(by omega)) (List.mem_take_iff_getElem.2 ⟨j, by omega, rfl⟩)
    simpa using this
  rw [this]
  have hz : zerosL.length = 20 := rfl
  show zerosL.getD k 0 = _
  rw [List.getD_eq_getElem?_getD, List.getElem?_eq_getElem (show k < zerosL.length by omega)]
  rfl
theorem zeroZ_none (s : ByteArray) (h : names.any (fun n => decide (n = s)) = false) : zeroZ s = -1 := by
  unfold zeroZ
  have : names.findIdx? (fun n => decide (n = s)) = none := by
    rw [List.findIdx?_eq_none_iff]; intro x hx
    rw [List.any_eq_false] at h
    simpa using h x hx
  rw [this]
theorem zeroZ_bd (s : ByteArray) : -1 ≤ zeroZ s ∧ zeroZ s ≤ 120812 := by
  unfold zeroZ
  split
  · rename_i i hi
    rw [List.findIdx?_eq_some_iff_getElem] at hi
    obtain ⟨hl, _⟩ := hi
    have : ∀ i : Fin 20, -1 ≤ zerosL.getD i.1 0 ∧ zerosL.getD i.1 0 ≤ 120812 := by decide
    exact this ⟨i, hl⟩
  · omega

set_option maxHeartbeats 1000000 in
theorem ref_zero (s : ByteArray) (w : World) : Calls Try.prog 20 #[.string s] w fun e w' => e = .returned (.int .i64 (zeroZ s)) ∧ Ext w w' := by
  go_enter Try.func20, Try.ntmps20
  go_wp2_with fail
  refine (ref_names _).mono ?_
  rintro e w1 ⟨A, rfl, hrow, hx⟩
  go_wp2
  go_loop [4] (fun i => ∃ k : Nat, k ≤ 20 ∧ i = .int .i64 k ∧ Hid ((names.take k).any (fun n => decide (n = s)) = false)) (fun i => 20 - (intOf i).toNat)
  case atStart => exact ⟨0, Nat.zero_le _, rfl, Lib.hid rfl⟩
  case round =>
    obtain ⟨k, hk, rfl, HK⟩ := hrel
    by_cases hlt : k < 20
    · obtain ⟨b, off, rfl, hc⟩ := row_str hrow (show k < names.length from hlt)
      have HA := Lib.hid (zeroZ_at s k hlt HK.out)
      have HT := Lib.hid (any_snoc (fun n => decide (n = s)) names k hlt)
      have hb := zeroZ_bd s
      generalize names[k] = x at *
      cases hb : x.toList == s.toList
      · have HB := Lib.hid ((beq_str x s).symm.trans hb)
        go_wp2
        go_round
        case rel => exact ⟨k + 1, by omega, by go_num, Lib.hid (by rw [HT.out, HK.out, HB.out]; rfl)⟩
        case measure => simp [intOf]; omega
      · have HB := Lib.hid ((beq_str x s).symm.trans hb)
        go_wp2_with fail
        refine (ref_noughts _).mono ?_
        rintro e w2 ⟨A, rfl, hrow2, hx2⟩
        obtain ⟨b2, off2, rfl, hc2⟩ := row_int hrow2 (show k < zerosL.length from hlt)
        have HZ : Hid (zeroZ s = zerosL[k]) := Lib.hid (HA.out HB.out)
        generalize zerosL[k] = z at *
        go_wp2
        go_ret
        exact ⟨by rw [HZ.out]; rfl, hx.trans hx2⟩
    · have e : k = 20 := by omega
      subst e
      have HZ := Lib.hid (zeroZ_none s HK.out)
      go_wp2
      go_ret
      exact ⟨by rw [HZ.out]; rfl, hx⟩

def nameAt (k : Nat) : ByteArray := names.getD k ⟨#[]⟩
def nameOf (n : Int) : ByteArray := nameAt (aroundF n 20).toNat
theorem names_at {k : Nat} (h : k < names.length) : names[k] = nameAt k := by unfold nameAt; rw [List.getD_eq_getElem?_getD, List.getElem?_eq_getElem h]; rfl
set_option maxHeartbeats 1000000 in
theorem ref_name (n : Int) (w : World) (h1 : -9223372036854775808 ≤ n) (h2 : n ≤ 9223372036854775807) :
    Calls Try.prog 18 #[.int .i64 n] w fun e w' => e = .returned (.string (nameOf n)) ∧ Ext w w' := by
  have hb := aroundF_bd n 20 (by omega)
  have HF : Hid (nameOf n = nameAt (aroundF n 20).toNat) := Lib.hid rfl
  go_enter Try.func18, Try.ntmps18
  go_wp2_with fail
  refine (ref_names _).mono ?_
  rintro e w1 ⟨A, rfl, hrow, hx⟩
  go_wp2_with fail
  refine (around _ _ _ h1 h2 (by omega) (by omega)).mono ?_; rintro e w2 ⟨rfl, rfl⟩
  generalize aroundF n 20 = k at *
  obtain ⟨k, rfl⟩ := Int.eq_ofNat_of_zero_le hb.1
  have hk : k < 20 := by omega
  clear hb
  obtain ⟨b, off, rfl, hc⟩ := row_str hrow (show k < names.length from hk)
  rw [names_at] at hc
  rw [Int.toNat_natCast] at HF
  generalize nameAt k = s at *
  go_wp2
  go_ret
  exact ⟨by rw [HF.out]; rfl, hx⟩

set_option maxHeartbeats 1000000 in
theorem ref_digit (s : ByteArray) (d : Int) (w : World) (h0 : 0 ≤ d) (h9 : d ≤ 9) :
    Calls Try.prog 26 #[.string s, .int .i64 d] w fun e w' => e = .returned (.string ⟨(encB (zeroZ s + d)).toArray⟩) ∧ Ext w w' := by
  have hb := zeroZ_bd s
  go_enter Try.func26, Try.ntmps26
  go_wp2_with fail
  refine (ref_zero _ _).mono ?_
  rintro e w1 ⟨rfl, hx⟩
  generalize hz : zeroZ s = z at *
  have HZ := Lib.hid hz
  clear hz
  go_wp2_with fail
  refine (ref_encode _ _).mono ?_
  rintro e w2 ⟨rfl, hx2⟩
  go_wp2
  go_ret
  exact ⟨by rw [HZ.out]; rfl, hx.trans hx2⟩

/-- which digit a character is, -1: none -/
def valZ (z c : Int) : Int := if z < 0 ∨ c < z ∨ z + 9 < c then -1 else c - z
set_option maxHeartbeats 1000000 in
theorem ref_value (s : ByteArray) (c : Int) (w : World) :
    Calls Try.prog 28 #[.string s, .int .i64 c] w fun e w' => e = .returned (.int .i64 (valZ (zeroZ s) c)) ∧ Ext w w' := by
  have hb := zeroZ_bd s
  go_enter Try.func28, Try.ntmps28
  go_wp2_with fail
  refine (ref_zero _ _).mono ?_
  rintro e w1 ⟨rfl, hx⟩
  generalize hz : zeroZ s = z at *
  have HZ := Lib.hid hz
  clear hz
  by_cases h0 : z < 0
  · go_wp2
    go_ret
    exact ⟨ret_int (by rw [HZ.out]; unfold valZ; rw [if_pos (by omega)]), hx⟩
  by_cases h1 : c < z
  · go_wp2
    go_ret
    exact ⟨ret_int (by rw [HZ.out]; unfold valZ; rw [if_pos (by omega)]), hx⟩
  by_cases h2 : z + 9 < c
  · go_wp2
    go_ret
    exact ⟨ret_int (by rw [HZ.out]; unfold valZ; rw [if_pos (by omega)]), hx⟩
  · have h0' : 0 ≤ z := by omega
    have h1' : z ≤ c := by omega
    have h2' : c ≤ z + 9 := by omega
    clear h0 h1 h2
    go_wp2
    go_ret
    exact ⟨ret_int (by rw [HZ.out]; unfold valZ; rw [if_neg (by omega)]), hx⟩

/-- digits, made of numbers -/
def goodL (xs : List Int) (m : Nat) : List Int := (xs.take m).map fun x => aroundF x 10
theorem goodL_ok (xs : List Int) (m : Nat) : digOk (goodL xs m) = true := by
  unfold digOk goodL
  rw [List.all_eq_true]
  intro x hx
  obtain ⟨y, _, rfl⟩ := List.mem_map.1 hx
  have := aroundF_bd y 10 (by omega)
  simp; omega
theorem goodL_snoc (xs : List Int) (k : Nat) (hk : k < xs.length) : (goodL xs (k + 1)).map (Value.int .i64) = (goodL xs k).map (Value.int .i64) ++ [.int .i64 (aroundF xs[k] 10)] := by
  unfold goodL
  rw [List.take_succ_eq_append_getElem hk, List.map_append, List.map_append]; rfl
set_option maxHeartbeats 1000000 in
theorem ref05_good (A : Option Addr) (c : Nat) (xs : List Int) (m : Nat) (w : World) (hr : Row w A (xs.map (Value.int .i64))) (hl : xs.length ≤ maxLen) (hm : m ≤ 1000000)
    (hz : ∀ x ∈ xs, -9223372036854775808 ≤ x ∧ x ≤ 9223372036854775807) :
    Calls Try.prog 29 #[.slice A xs.length c, .int .i64 m] w fun e w' => ∃ A c, e = .returned (.slice A (min xs.length m) c) ∧ Row w' A ((goodL xs m).map (Value.int .i64)) ∧ Ext w w' := by
  unfold maxLen at hl
  go_enter Try.func29, Try.ntmps29
  go_wp2
  go_loopw [5, 6] (fun v i wr => ∃ k : Nat, k ≤ xs.length ∧ k ≤ m ∧ i = .int .i64 k ∧ ∃ A c, v = .slice A k c ∧ Acc 3 1 w wr A c k ((goodL xs k).map (Value.int .i64))) (fun _ i _ => xs.length - (intOf i).toNat)
  case atStart => exact ⟨0, Nat.zero_le _, Nat.zero_le _, rfl, none, 0, rfl, Acc.start _ _ _⟩
  case round =>
    obtain ⟨k, hk, hkm, rfl, A', c', rfl, hacc⟩ := hrel
    by_cases hlt : k < xs.length
    · by_cases hlm : k < m
      · obtain ⟨b, off, rfl, hc⟩ := row_int (hacc.keep hr) hlt
        have HS := Lib.hid (goodL_snoc xs k hlt)
        have hzx := hz xs[k] (List.getElem_mem hlt)
        generalize xs[k] = x at *
        go_wp2_with fail
        refine (around _ _ _ hzx.1 hzx.2 (by omega) (by omega)).mono ?_; rintro e w2 ⟨rfl, rfl⟩
        generalize aroundF x 10 = y at *
        go_wp2_with (at_builtin; refine wp_app ei_int rfl _ _ rfl w _ A' c' k _ rfl hacc [.int .i64 y] 1 1 rfl rfl (by simp [Value.oneCell']) (by omega) (by unfold maxLen; omega) ?_; intro A1 c1 w1 hacc1 _ _; clear hacc)
        go_roundw
        case rel => exact ⟨k + 1, by omega, by omega, by go_num, A1, c1, rfl, by rw [HS.out]; exact hacc1⟩
        case measure => simp [intOf]; omega
      · have e : k = m := by omega
        subst e
        have HM : Hid (min xs.length k = k) := Lib.hid (by omega)
        go_wp2
        go_ret
        exact ⟨A', c', by rw [HM.out]; rfl, hacc.row, hacc.ext⟩
    · have e : k = xs.length := by omega
      subst e
      have HM : Hid (min xs.length m = xs.length) := Lib.hid (by omega)
      have HG : Hid (goodL xs m = goodL xs xs.length) := Lib.hid (by unfold goodL; rw [List.take_of_length_le (by omega), List.take_of_length_le (by omega)])
      go_wp2
      go_ret
      exact ⟨A', c', by rw [HM.out]; rfl, by rw [HG.out]; exact hacc.row, hacc.ext⟩

theorem wf_ofDig {xs : List Int} (h : digOk xs = true) {k : Nat} (hk : k < xs.length) : 0 ≤ xs[k] ∧ xs[k] ≤ 9 := by
  unfold digOk at h
  rw [List.all_eq_true] at h
  simpa using h _ (List.getElem_mem hk)
/-- digits' bytes -/
def shapeB (z : Int) (xs : List Int) : List UInt8 := xs.flatMap fun d => encB (z + d)
def shapeZ (s : ByteArray) (xs : List Int) : List UInt8 × Int := if zeroZ s < 0 then ([], 7) else if digOk xs then (shapeB (zeroZ s) xs, 0) else ([], 1)
theorem encB_le (c : Int) : (encB c).length ≤ 4 := by
  unfold encB
  split
  · simpa [Lib.encodeRune] using (Lib.encodeRuneZ_length c).2
  · simp
theorem shapeB_le (z : Int) (xs : List Int) : (shapeB z xs).length ≤ 4 * xs.length := by
  induction xs with
  | nil => simp [shapeB]
  | cons d xs ih =>
    have := encB_le (z + d)
    simp only [shapeB, List.flatMap_cons, List.length_append, List.length_cons] at ih ⊢
    omega
theorem shapeB_snoc (z : Int) (xs : List Int) (k : Nat) (hk : k < xs.length) : shapeB z (xs.take (k + 1)) = shapeB z (xs.take k) ++ encB (z + xs[k]) := by
  rw [List.take_succ_eq_append_getElem hk]; simp only [shapeB, List.flatMap_append, List.flatMap_cons, List.flatMap_nil, List.append_nil]

set_option maxHeartbeats 1000000 in
theorem ref_shape (s : ByteArray) (A : Option Addr) (c : Nat) (xs : List Int) (w : World) (hr : Row w A (xs.map (Value.int .i64))) (hl : xs.length ≤ 1000000) :
    Calls Try.prog 31 #[.string s, .slice A xs.length c] w fun e w' => e = .returned (.tuple #[.string ⟨(shapeZ s xs).1.toArray⟩, .int .i64 (shapeZ s xs).2]) ∧ Ext w w' := by
  have hb := zeroZ_bd s
  go_enter Try.func31, Try.ntmps31
  go_wp2_with fail
  refine (ref_zero _ _).mono ?_
  rintro e w1 ⟨rfl, hx⟩
  generalize hz : zeroZ s = z at *
  have HZ := Lib.hid hz
  clear hz
  by_cases h0 : z < 0
  · have HF : Hid (shapeZ s xs = ([], 7)) := Lib.hid (by unfold shapeZ; rw [HZ.out, if_pos h0])
    go_wp2
    go_ret2
    exact ⟨by rw [HF.out]; rfl, hx⟩
  have h0' : 0 ≤ z := by omega
  clear h0
  cases hd : digOk xs
  · have HD := Lib.hid hd
    have HF : Hid (shapeZ s xs = ([], 1)) := Lib.hid (by unfold shapeZ; rw [HZ.out, if_neg (by omega), hd]; rfl)
    clear hd
    go_wp2_with fail
    refine (ref05_may _ _ _ _ (hr.below hx (Nat.le_refl _)) (by unfold maxLen; omega)).mono ?_
    rintro e w2 ⟨rfl, rfl⟩; rw [HD.out]
    go_wp2
    go_ret2
    exact ⟨by rw [HF.out]; rfl, hx⟩
  · have HD := Lib.hid hd
    have HF : Hid (shapeZ s xs = (shapeB z xs, 0)) := Lib.hid (by unfold shapeZ; rw [HZ.out, if_neg (by omega), hd]; rfl)
    clear hd
    go_wp2_with fail
    refine (ref05_may _ _ _ _ (hr.below hx (Nat.le_refl _)) (by unfold maxLen; omega)).mono ?_
    rintro e w2 ⟨rfl, rfl⟩; rw [HD.out]
    go_wp2
    go_loopw [7, 8] (fun v i wr => ∃ k : Nat, k ≤ xs.length ∧ i = .int .i64 k ∧ v = .string ⟨(shapeB z (xs.take k)).toArray⟩ ∧ Ext w wr) (fun _ i _ => xs.length - (intOf i).toNat)
    case atStart => exact ⟨0, Nat.zero_le _, rfl, rfl, hx⟩
    case round =>
      obtain ⟨k, hk, rfl, rfl, hxr⟩ := hrel
      by_cases hlt : k < xs.length
      · obtain ⟨b, off, rfl, hc⟩ := row_int (hr.below hxr (Nat.le_refl _)) hlt
        have HT := Lib.hid (shapeB_snoc z xs k hlt)
        have hle := shapeB_le z (xs.take k)
        rw [List.length_take_of_le hk] at hle
        obtain ⟨d0, d9⟩ := wf_ofDig HD.out hlt
        generalize xs[k] = d at *
        generalize shapeB z (xs.take k) = l at *
        have he4 := encB_le (z + d)
        go_wp2_with fail
        refine (ref_digit _ _ _ d0 d9).mono ?_
        rintro e w3 ⟨rfl, hx3⟩
        rw [HZ.out]
        generalize encB (z + d) = m at *
        go_wp2
        go_roundw
        case rel => exact ⟨k + 1, by omega, by go_num, by rw [app_mk, HT.out], hxr.trans hx3⟩
        case measure => simp [intOf]; omega
      · have e : k = xs.length := by omega
        subst e
        rw [List.take_length]
        go_wp2
        go_ret2
        exact ⟨by rw [HF.out]; rfl, hxr⟩

/-- of which system, and which digit -/
def ofP (c : Int) (n : ByteArray) : Bool := decide (0 ≤ valZ (zeroZ n) c)
def ofZ (c : Int) : ByteArray × Int := match names.findIdx? (ofP c) with | some i => (nameAt i, valZ (zeroZ (nameAt i)) c) | none => (⟨#[]⟩, -1)
theorem ofZ_none (c : Int) (h : names.any (ofP c) = false) : ofZ c = (⟨#[]⟩, -1) := by
  have := idxF_none (ofP c) names h
  unfold idxF at this
  unfold ofZ
  cases hh : names.findIdx? (ofP c) with
  | none => rfl
  | some i => rw [hh] at this; dsimp only at this; omega
theorem ofZ_at (c : Int) (k : Nat) (hk : k < names.length) (h : (names.take k).any (ofP c) = false) (hp : ofP c names[k] = true) : ofZ c = (names[k], valZ (zeroZ names[k]) c) := by
  have := idxF_at (ofP c) names k hk h hp
  unfold idxF at this
  unfold ofZ
  cases hh : names.findIdx? (ofP c) with
  | none => rw [hh] at this; dsimp only at this; omega
  | some i => rw [hh] at this; dsimp only at this; obtain rfl : i = k := by omega
              rw [names_at hk]
set_option maxHeartbeats 1000000 in
theorem ref_of (c : Int) (w : World) : Calls Try.prog 22 #[.int .i64 c] w fun e w' => e = .returned (.tuple #[.string (ofZ c).1, .int .i64 (ofZ c).2]) ∧ Ext w w' := by
  go_enter Try.func22, Try.ntmps22
  go_wp2_with fail
  refine (ref_names _).mono ?_
  rintro e w1 ⟨A, rfl, hrow, hx⟩
  go_wp2
  go_loopw [5] (fun i wr => ∃ k : Nat, k ≤ 20 ∧ i = .int .i64 k ∧ Hid ((names.take k).any (ofP c) = false) ∧ Ext w1 wr) (fun i _ => 20 - (intOf i).toNat)
  case atStart => exact ⟨0, Nat.zero_le _, rfl, Lib.hid rfl, Ext.refl _⟩
  case round =>
    obtain ⟨k, hk, rfl, HK, hxr⟩ := hrel
    by_cases hlt : k < 20
    · obtain ⟨b, off, rfl, hc⟩ := row_str (hrow.below hxr (Nat.le_refl _)) (show k < names.length from hlt)
      have HA := Lib.hid (ofZ_at c k hlt HK.out)
      have HT := Lib.hid (any_snoc (ofP c) names k hlt)
      generalize names[k] = x at *
      go_wp2_with fail
      refine (ref_value _ _ _).mono ?_
      rintro e w2 ⟨rfl, hx2⟩
      have hc2 : w2.cell? ⟨b, off + k, none⟩ = some (.string x) := (hx2.cell (p := ⟨b, off + k, none⟩) (block_lt hc)).trans hc
      have HP : Hid (ofP c x = decide (0 ≤ valZ (zeroZ x) c)) := Lib.hid rfl
      generalize valZ (zeroZ x) c = v at *
      by_cases hv : 0 ≤ v
      · have HV : Hid (ofZ c = (x, v)) := Lib.hid (HA.out (by rw [HP.out]; simpa using hv))
        go_wp2
        go_ret2
        exact ⟨by rw [HV.out]; rfl, (hx.trans hxr).trans hx2⟩
      · have hv' : v < 0 := by omega
        clear hv
        go_wp2
        go_roundw
        case rel => exact ⟨k + 1, by omega, by go_num, Lib.hid (by rw [HT.out, HK.out, HP.out]; simpa using hv'), hxr.trans hx2⟩
        case measure => simp [intOf]; omega
    · have e : k = 20 := by omega
      subst e
      have HZ := Lib.hid (ofZ_none c HK.out)
      go_wp2
      go_ret2
      exact ⟨by rw [HZ.out]; rfl, hx.trans hxr⟩
end Go.Proofs.Ytbhmmodphjmlmaa.Sys
