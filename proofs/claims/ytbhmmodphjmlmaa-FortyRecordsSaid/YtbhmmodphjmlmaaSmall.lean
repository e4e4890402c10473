/- Walks: small functions on numbers and lists of numbers. -/
import Derived.Test.YtbhmmodphjmlmaaUtf
namespace Go.Proofs.Ytbhmmodphjmlmaa.Small
open Go.RowKit Utf
set_option linter.unusedVariables false
set_option linter.unusedSimpArgs false

def aroundF (n m : Int) : Int := (if n < 0 then -(n + 1) else n) % m
theorem aroundF_bd (n m : Int) (hm : 1 ≤ m) : 0 ≤ aroundF n m ∧ aroundF n m < m := ⟨Int.emod_nonneg _ (by omega), Int.emod_lt_of_pos _ (by omega)⟩

set_option maxHeartbeats 400000 in
theorem around (n m : Int) (w : World) (h1 : -9223372036854775808 ≤ n) (h2 : n ≤ 9223372036854775807) (hm : 1 ≤ m) (hm2 : m ≤ 9223372036854775807) :
    Calls Try.prog 13 #[.int .i64 n, .int .i64 m] w fun e w' => e = .returned (.int .i64 (aroundF n m)) ∧ w = w' := by
  by_cases hn : n < 0
  · go_enter Try.func13, Try.ntmps13
    go_wp2
    go_ret
    refine ⟨ret_int ?_, rfl⟩
    rw [aroundF, if_pos hn, ← Int.neg_tmod]
    exact Int.tmod_eq_emod_of_nonneg (by omega)
  · have hn' : 0 ≤ n := by omega
    go_enter Try.func13, Try.ntmps13
    go_wp2
    go_ret
    refine ⟨ret_int ?_, rfl⟩
    rw [aroundF, if_neg (by omega)]

def goodC (n : Int) : Int := if mayC (aroundF n 1114112) then aroundF n 1114112 else aroundF n 1114112 + 2048
set_option maxHeartbeats 400000 in
set_option maxRecDepth 100000 in
theorem ref_good (n : Int) (w : World) (h1 : -9223372036854775808 ≤ n) (h2 : n ≤ 9223372036854775807) :
    Calls Try.prog 19 #[.int .i64 n] w fun e w' => e = .returned (.int .i64 (goodC n)) ∧ w = w' := by
  have hb := aroundF_bd n 1114112 (by omega)
  have hf : goodC n = if mayC (aroundF n 1114112) then aroundF n 1114112 else aroundF n 1114112 + 2048 := rfl
  have HF := Lib.hid hf
  clear hf
  go_enter Try.func19, Try.ntmps19
  go_wp2_with fail
  refine (around _ _ _ h1 h2 (by omega) (by omega)).mono ?_; rintro e w' ⟨rfl, rfl⟩
  generalize aroundF n 1114112 = c at *
  cases hm : mayC c
  all_goals
    have HM := Lib.hid hm
    clear hm
    go_wp2_with fail
    refine (ref_may _ _).mono ?_; rintro e w' ⟨rfl, rfl⟩; rw [HM.out]
    go_wp2
    go_ret
    refine ⟨?_, rfl⟩
    rw [HF.out, HM.out]; rfl

/-- the first so many bytes -/
def fewB (s : ByteArray) (m : Nat) : ByteArray := if m < s.size then s.extract 0 m else s
theorem fewB_size (s : ByteArray) (m : Nat) : (fewB s m).size ≤ m := by
  unfold fewB; split
  · simp; omega
  · omega
set_option maxHeartbeats 400000 in
theorem few (s : ByteArray) (m : Nat) (w : World) (hs : s.size ≤ maxLen) (hm : m ≤ 1000000) :
    Calls Try.prog 24 #[.string s, .int .i64 m] w fun e w' => e = .returned (.string (fewB s m)) ∧ w = w' := by
  unfold maxLen at hs
  by_cases h : m < s.size
  · have hf : fewB s m = s.extract 0 m := by rw [fewB, if_pos h]
    have HF := Lib.hid hf
    clear hf
    go_enter Try.func24, Try.ntmps24
    go_wp2
    go_ret
    exact ⟨by rw [HF.out]; rfl, rfl⟩
  · have hf : fewB s m = s := by rw [fewB, if_neg h]
    have HF := Lib.hid hf
    clear hf
    go_enter Try.func24, Try.ntmps24
    go_wp2
    go_ret
    exact ⟨by rw [HF.out]; rfl, rfl⟩

/-- digits? -/
def digOk (xs : List Int) : Bool := xs.all fun d => decide (0 ≤ d ∧ d ≤ 9)
theorem row_int {w : World} {A : Option Addr} {xs : List Int} (h : Row w A (xs.map (Value.int .i64))) {k : Nat} (hk : k < xs.length) :
    ∃ b off, A = some ⟨b, off, none⟩ ∧ w.cell? ⟨b, off + k, none⟩ = some (.int .i64 xs[k]) := by
  obtain ⟨b, off, e, hc⟩ := h.at_ (k := k) (by simpa using hk)
  exact ⟨b, off, e, hc k _ (by simp [hk])⟩
theorem digOk_take (xs : List Int) (k : Nat) (hk : k < xs.length) : digOk (xs.take (k + 1)) = (digOk (xs.take k) && decide (0 ≤ xs[k] ∧ xs[k] ≤ 9)) := by
  unfold digOk
  rw [List.take_succ_eq_append_getElem hk, List.all_append]
  simp
theorem digOk_bad (xs : List Int) (k : Nat) (hk : k < xs.length) (h : ¬ (0 ≤ xs[k] ∧ xs[k] ≤ 9)) : digOk xs = false := by
  unfold digOk
  rw [List.all_eq_false]
  exact ⟨xs[k], List.getElem_mem hk, by simpa using h⟩

set_option maxHeartbeats 400000 in
theorem ref05_may (A : Option Addr) (c : Nat) (xs : List Int) (w : World) (hr : Row w A (xs.map (Value.int .i64))) (hl : xs.length ≤ maxLen) :
    Calls Try.prog 55 #[.slice A xs.length c] w fun e w' => e = .returned (.bool (digOk xs)) ∧ w = w' := by
  unfold maxLen at hl
  go_enter Try.func55, Try.ntmps55
  go_wp2
  go_loop [3] (fun i => ∃ k : Nat, k ≤ xs.length ∧ i = .int .i64 k ∧ Hid (digOk (xs.take k) = true)) (fun i => xs.length - (intOf i).toNat)
  case atStart => exact ⟨0, Nat.zero_le _, rfl, Lib.hid (by simp [digOk])⟩
  case round =>
    obtain ⟨k, hk, rfl, HK⟩ := hrel
    by_cases hlt : k < xs.length
    · obtain ⟨b, off, rfl, hc⟩ := row_int hr hlt
      have hb := digOk_bad xs k hlt
      have ht := digOk_take xs k hlt
      have HB := Lib.hid hb
      have HT := Lib.hid ht
      clear hb ht
      generalize xs[k] = x at *
      by_cases h0 : x < 0
      · have h0' : (x < 0) = True := by simp [h0]
        go_wp2
        go_ret
        exact ⟨ret_bool (HB.out (by omega)).symm, rfl⟩
      by_cases h9 : 9 < x
      · go_wp2
        go_ret
        exact ⟨ret_bool (HB.out (by omega)).symm, rfl⟩
      have h0' : 0 ≤ x := by omega
      have h9' : x ≤ 9 := by omega
      clear h0 h9
      go_wp2
      go_round
      case rel => exact ⟨k + 1, by omega, by go_num, Lib.hid (by rw [HT.out, HK.out]; simp; omega)⟩
      case measure => simp [intOf]; omega
    · have e : k = xs.length := by omega
      subst e
      rw [List.take_length] at HK
      go_wp2
      go_ret
      exact ⟨by rw [HK.out]; rfl, rfl⟩

theorem take_ne {xs ys : List Int} {k : Nat} (h1 : k < xs.length) (h2 : k < ys.length) (h : xs[k] ≠ ys[k]) : xs ≠ ys := by
  rintro rfl; exact h rfl
set_option maxHeartbeats 400000 in
theorem same_len (A B : Option Addr) (c d n : Nat) (xs ys : List Int) (w : World) (hx : Row w A (xs.map (Value.int .i64))) (hy : Row w B (ys.map (Value.int .i64))) (HX : Hid (xs.length = n)) (HY : Hid (ys.length = n)) (hl : n ≤ maxLen) :
    Calls Try.prog 33 #[.slice A n c, .slice B n d] w fun e w' => e = .returned (.bool (decide (xs = ys))) ∧ Ext w w' := by
  unfold maxLen at hl
  go_enter Try.func33, Try.ntmps33
  go_wp2
  go_loopw [5] (fun i wr => ∃ k : Nat, k ≤ n ∧ i = .int .i64 k ∧ Hid (xs.take k = ys.take k) ∧ ∃ q, wr = w.drewN q) (fun i _ => n - (intOf i).toNat)
  case atStart => exact ⟨0, Nat.zero_le _, rfl, Lib.hid (by simp), 0, rfl⟩
  case round =>
    obtain ⟨k, hk, rfl, HK, q, rfl⟩ := hrel
    by_cases hlt : k < n
    · have kx : k < xs.length := by rw [HX.out]; exact hlt
      have ky : k < ys.length := by rw [HY.out]; exact hlt
      obtain ⟨b, off, rfl, hc⟩ := row_int hx kx
      obtain ⟨b', off', rfl, hc'⟩ := row_int hy ky
      have HT := Lib.hid (take_ne kx ky)
      have HS : Hid (xs[k] = ys[k] → xs.take (k + 1) = ys.take (k + 1)) := Lib.hid (fun h => by rw [List.take_succ_eq_append_getElem kx, List.take_succ_eq_append_getElem ky, HK.out, h])
      have i1 : ((k : Int) < (n : Int)) := by omega
      generalize xs[k] = x at *
      generalize ys[k] = y at *
      clear kx ky
      cases hxy : (x != y)
      · have e : x = y := by simpa using hxy
        have E := Lib.hid e
        clear e
        go_wp2
        go_quiet (fail)
        go_wp2
        go_roundw
        case rel => exact ⟨k + 1, by omega, by go_num, Lib.hid (HS.out E.out), _, rfl⟩
        case measure => simp [intOf]; omega
      · have e : x ≠ y := by simpa using hxy
        have E := Lib.hid e
        clear e
        go_wp2
        go_quiet (fail)
        go_wp2
        go_ret
        exact ⟨ret_bool (by simp [HT.out E.out]), ⟨rfl, rfl, rfl, Nat.le_refl _, fun _ _ => rfl⟩⟩
    · have e : k = n := by omega
      subst e
      have HF : Hid (xs = ys) := by have h := HK.out; rw [List.take_of_length_le (by rw [HX.out]; omega), List.take_of_length_le (by rw [HY.out]; omega)] at h; exact Lib.hid h
      go_wp2
      go_ret
      exact ⟨ret_bool (by simp [HF.out]), ⟨rfl, rfl, rfl, Nat.le_refl _, fun _ _ => rfl⟩⟩
set_option maxHeartbeats 400000 in
theorem same (A B : Option Addr) (c d : Nat) (xs ys : List Int) (w : World) (hx : Row w A (xs.map (Value.int .i64))) (hy : Row w B (ys.map (Value.int .i64))) (hl : xs.length ≤ maxLen) (hl' : ys.length ≤ maxLen) :
    Calls Try.prog 33 #[.slice A xs.length c, .slice B ys.length d] w fun e w' => e = .returned (.bool (decide (xs = ys))) ∧ Ext w w' := by
  by_cases he : xs.length = ys.length
  · rw [← he]
    exact same_len A B c d _ xs ys w hx hy (Lib.hid rfl) (Lib.hid he.symm) hl
  · have hne : ((xs.length : Int) != (ys.length : Int)) = true := by simp; omega
    have hxy : xs ≠ ys := by rintro rfl; exact he rfl
    have HN := Lib.hid hxy
    clear he hxy
    go_enter Try.func33, Try.ntmps33
    go_wp2
    go_ret
    exact ⟨ret_bool (by simp [HN.out]), Below.refl _ _⟩

/-- the function values that are handed to slices.IndexFunc here -/
def badD (d : Int) : Bool := decide (d < 0 ∨ 10 ≤ d)
set_option maxHeartbeats 400000 in
theorem digit_may_1 (d : Int) (w : World) : Calls Try.prog 67 #[.int .i64 d] w fun e w' => e = .returned (.bool (badD d)) ∧ w = w' := by
  go_enter Try.func67, Try.ntmps67
  go_wp2
  all_goals
    go_ret
    refine ⟨ret_bool ?_, rfl⟩
    unfold badD
    refine beq_dec ?_
    simp
    try omega

/-- the first place where p holds, or -1 -/
def idxF {α : Type} (p : α → Bool) (xs : List α) : Int := match xs.findIdx? p with | some i => i | none => -1
theorem idxF_none {α : Type} (p : α → Bool) (xs : List α) (h : (xs.any p) = false) : idxF p xs = -1 := by
  unfold idxF
  have : xs.findIdx? p = none := by
    rw [List.findIdx?_eq_none_iff]; intro x hx
    rw [List.any_eq_false] at h
    simpa using h x hx
  rw [this]
theorem idxF_at {α : Type} (p : α → Bool) (xs : List α) (k : Nat) (hk : k < xs.length) (h : (xs.take k).any p = false) (hp : p xs[k] = true) : idxF p xs = k := by
  unfold idxF
  have : xs.findIdx? p = some k := by
    rw [List.findIdx?_eq_some_iff_getElem]
    refine ⟨hk, hp, fun j hj => ?_⟩
    rw [List.any_eq_false] at h
    have := h xs[j] (List.mem_take_iff_getElem.2 ⟨j, by omega, rfl⟩)
    simpa using this
  rw [this]
theorem any_snoc {α : Type} (p : α → Bool) (xs : List α) (k : Nat) (hk : k < xs.length) : (xs.take (k + 1)).any p = ((xs.take k).any p || p xs[k]) := by
  rw [List.take_succ_eq_append_getElem hk, List.any_append]; simp

set_option maxHeartbeats 400000 in
theorem index_badD (A : Option Addr) (c : Nat) (xs : List Int) (w : World) (hr : Row w A (xs.map (Value.int .i64))) (hl : xs.length ≤ maxLen) :
    Calls Try.prog 76 #[.slice A xs.length c, .func (.func 67) #[] #[]] w fun e w' => e = .returned (.int .i64 (idxF badD xs)) ∧ w = w' := by
  unfold maxLen at hl
  go_enter Try.func76, Try.ntmps76
  go_wp2
  go_loop [5, 8] (fun _ i => ∃ k : Nat, k ≤ xs.length ∧ i = .int .i64 k ∧ Hid ((xs.take k).any badD = false)) (fun _ i => xs.length - (intOf i).toNat)
  case atStart => exact ⟨0, Nat.zero_le _, rfl, Lib.hid (by simp)⟩
  case round =>
    obtain ⟨k, hk, rfl, HK⟩ := hrel
    by_cases hlt : k < xs.length
    · obtain ⟨b, off, rfl, hc⟩ := row_int hr hlt
      have HA := Lib.hid (idxF_at badD xs k hlt HK.out)
      have HT := Lib.hid (any_snoc badD xs k hlt)
      generalize xs[k] = x at *
      cases hb : badD x
      · have HB := Lib.hid hb
        clear hb
        go_wp2_with (refine (digit_may_1 _ _).mono ?_; rintro e w' ⟨rfl, rfl⟩; rw [HB.out])
        go_round
        case rel => exact ⟨k + 1, by omega, by go_num, Lib.hid (by rw [HT.out, HK.out, HB.out]; rfl)⟩
        case measure => simp [intOf]; omega
      · have HB := Lib.hid hb
        clear hb
        go_wp2_with (refine (digit_may_1 _ _).mono ?_; rintro e w' ⟨rfl, rfl⟩; rw [HB.out])
        go_ret
        exact ⟨by rw [HA.out HB.out]; rfl, rfl⟩
    · have e : k = xs.length := by omega
      subst e
      rw [List.take_length] at HK
      go_wp2
      go_ret
      exact ⟨by rw [idxF_none _ _ HK.out]; rfl, rfl⟩
theorem badD_any (xs : List Int) : xs.any badD = !digOk xs := by
  unfold digOk
  rw [List.not_all_eq_any_not]
  congr 1
  funext d
  unfold badD
  rw [Bool.eq_iff_iff]; simp; omega
theorem idxF_sign {α : Type} (p : α → Bool) (xs : List α) : decide (0 ≤ idxF p xs) = xs.any p := by
  unfold idxF
  cases h : xs.findIdx? p with
  | none =>
    rw [List.findIdx?_eq_none_iff] at h
    simp
    exact fun x hx => by simpa using h x hx
  | some i =>
    rw [List.findIdx?_eq_some_iff_getElem] at h
    obtain ⟨hi, hp, _⟩ := h
    simp
    exact ⟨_, List.getElem_mem hi, hp⟩

set_option maxHeartbeats 400000 in
theorem contains_badD (A : Option Addr) (c : Nat) (xs : List Int) (w : World) (hr : Row w A (xs.map (Value.int .i64))) (hl : xs.length ≤ maxLen) :
    Calls Try.prog 66 #[.slice A xs.length c, .func (.func 67) #[] #[]] w fun e w' => e = .returned (.bool (!digOk xs)) ∧ w = w' := by
  have HF := Lib.hid ((idxF_sign badD xs).trans (badD_any xs))
  go_enter Try.func66, Try.ntmps66
  go_wp2_with fail
  refine (index_badD _ _ _ _ hr hl).mono ?_; rintro e w' ⟨rfl, rfl⟩
  go_wp2
  go_ret
  exact ⟨by rw [← HF.out]; rfl, rfl⟩

set_option maxHeartbeats 400000 in
theorem digit_may (A : Option Addr) (c : Nat) (xs : List Int) (w : World) (hr : Row w A (xs.map (Value.int .i64))) (hl : xs.length ≤ maxLen) :
    Calls Try.prog 53 #[.slice A xs.length c] w fun e w' => e = .returned (.bool (digOk xs)) ∧ w = w' := by
  go_enter Try.func53, Try.ntmps53
  go_wp2_with fail
  refine (contains_badD _ _ _ _ hr hl).mono ?_; rintro e w' ⟨rfl, rfl⟩
  go_wp2
  go_ret
  exact ⟨ret_bool (by simp), rfl⟩
end Go.Proofs.Ytbhmmodphjmlmaa.Small
