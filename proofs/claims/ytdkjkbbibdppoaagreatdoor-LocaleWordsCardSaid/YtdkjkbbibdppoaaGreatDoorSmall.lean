/- Walks: small functions on numbers and lists of numbers. -/
import Derived.Test.YtdkjkbbibdppoaaGreatDoorUtf
namespace Go.Proofs.YtdkjkbbibdppoaaGreatDoor.Small
open Go.RowKit Utf
set_option linter.unusedVariables false
set_option linter.unusedSimpArgs false

def aroundF (n m : Int) : Int := (if n < 0 then -(n + 1) else n) % m
theorem aroundF_bd (n m : Int) (hm : 1 ≤ m) : 0 ≤ aroundF n m ∧ aroundF n m < m := ⟨Int.emod_nonneg _ (by omega), Int.emod_lt_of_pos _ (by omega)⟩

set_option maxHeartbeats 400000 in
theorem around (n m : Int) (w : World) (h1 : -9223372036854775808 ≤ n) (h2 : n ≤ 9223372036854775807) (hm : 1 ≤ m) (hm2 : m ≤ 9223372036854775807) :
    Calls Tryz.prog 24 #[.int .i64 n, .int .i64 m] w fun e w' => e = .returned (.int .i64 (aroundF n m)) ∧ w = w' := by
  by_cases hn : n < 0
  · go_enter Tryz.func24, Tryz.ntmps24
    go_wp2
    go_ret
    refine ⟨ret_int ?_, rfl⟩
    rw [aroundF, if_pos hn, ← Int.neg_tmod]
    exact Int.tmod_eq_emod_of_nonneg (by omega)
  · have hn' : 0 ≤ n := by omega
    go_enter Tryz.func24, Tryz.ntmps24
    go_wp2
    go_ret
    refine ⟨ret_int ?_, rfl⟩
    rw [aroundF, if_neg (by omega)]

def goodC (n : Int) : Int := if mayC (aroundF n 1114112) then aroundF n 1114112 else aroundF n 1114112 + 2048

/-- the first so many bytes -/
def fewB (s : ByteArray) (m : Nat) : ByteArray := if m < s.size then s.extract 0 m else s
theorem fewB_size (s : ByteArray) (m : Nat) : (fewB s m).size ≤ m := by
  unfold fewB; split
  · simp; omega
  · omega
set_option maxHeartbeats 400000 in
theorem few (s : ByteArray) (m : Nat) (w : World) (hs : s.size ≤ maxLen) (hm : m ≤ 1000000) :
    Calls Tryz.prog 25 #[.string s, .int .i64 m] w fun e w' => e = .returned (.string (fewB s m)) ∧ w = w' := by
  unfold maxLen at hs
  by_cases h : m < s.size
  · have hf : fewB s m = s.extract 0 m := by rw [fewB, if_pos h]
    have HF := Lib.hid hf
    clear hf
    go_enter Tryz.func25, Tryz.ntmps25
    go_wp2
    go_ret
    exact ⟨by rw [HF.out]; rfl, rfl⟩
  · have hf : fewB s m = s := by rw [fewB, if_neg h]
    have HF := Lib.hid hf
    clear hf
    go_enter Tryz.func25, Tryz.ntmps25
    go_wp2
    go_ret
    exact ⟨by rw [HF.out]; rfl, rfl⟩

/-- digits? -/
def digOk (xs : List Int) : Bool := xs.all fun d => decide (0 ≤ d ∧ d ≤ 9)
theorem row_int {w : World} {A : Option Addr} {xs : List Int} (h : Row w A (xs.map (Value.int .i64))) {k : Nat} (hk : k < xs.length) :
    ∃ b off, A = some ⟨b, off, none⟩ ∧ w.cell? ⟨b, off + k, none⟩ = some (.int .i64 xs[k]) := by
  obtain ⟨b, off, e, hc⟩ := h.at_ (k := k) (by simpa using hk)
  exact ⟨b, off, e, hc k _ (by simp [hk])⟩
theorem digOk_take (xs : List Int) (k : Nat) (hk : k < xs.length) : digOk (xs.take (k + 1)) = (digOk (xs.take k) && decide (0 ≤ xs[k] ∧ xs[k] ≤ 9)) := by
  unfold digOk
  rw [List.take_succ_eq_append_getElem hk, List.all_append]
  simp
theorem digOk_bad (xs : List Int) (k : Nat) (hk : k < xs.length) (h : ¬ (0 ≤ xs[k] ∧ xs[k] ≤ 9)) : digOk xs = false := by
  unfold digOk
  rw [List.all_eq_false]
  exact ⟨xs[k], List.getElem_mem hk, by simpa using h⟩


theorem take_ne {xs ys : List Int} {k : Nat} (h1 : k < xs.length) (h2 : k < ys.length) (h : xs[k] ≠ ys[k]) : xs ≠ ys := by
  rintro rfl; exact h rfl

/-- the function values that are handed to slices.IndexFunc here -/
def badD (d : Int) : Bool := decide (d < 0 ∨ 10 ≤ d)

/-- the first place where p holds, or -1 -/
def idxF {α : Type} (p : α → Bool) (xs : List α) : Int := match xs.findIdx? p with | some i => i | none => -1
theorem idxF_none {α : Type} (p : α → Bool) (xs : List α) (h : (xs.any p) = false) : idxF p xs = -1 := by
  unfold idxF
  have : xs.findIdx? p = none := by
    rw [List.findIdx?_eq_none_iff]; intro x hx
    rw [List.any_eq_false] at h
    simpa using h x hx
  rw [this]
theorem idxF_at {α : Type} (p : α → Bool) (xs : List α) (k : Nat) (hk : k < xs.length) (h : (xs.take k).any p = false) (hp : p xs[k] = true) : idxF p xs = k := by
  unfold idxF
  have : xs.findIdx? p = some k := by
    rw [List.findIdx?_eq_some_iff_getElem]
    refine ⟨hk, hp, fun j hj => ?_⟩
    rw [List.any_eq_false] at h
    have := h xs[j] (List.mem_take_iff_getElem.2 ⟨j, by omega, rfl⟩)
    simpa using this
  rw [this]
theorem any_snoc {α : Type} (p : α → Bool) (xs : List α) (k : Nat) (hk : k < xs.length) : (xs.take (k + 1)).any p = ((xs.take k).any p || p xs[k]) := by
  rw [List.take_succ_eq_append_getElem hk, List.any_append]; simp

theorem badD_any (xs : List Int) : xs.any badD = !digOk xs := by
  unfold digOk
  rw [List.not_all_eq_any_not]
  congr 1
  funext d
  unfold badD
  rw [Bool.eq_iff_iff]; simp; omega
theorem idxF_sign {α : Type} (p : α → Bool) (xs : List α) : decide (0 ≤ idxF p xs) = xs.any p := by
  unfold idxF
  cases h : xs.findIdx? p with
  | none =>
    rw [List.findIdx?_eq_none_iff] at h
    simp
    exact fun x hx => by simpa using h x hx
  | some i =>
    rw [List.findIdx?_eq_some_iff_getElem] at h
    obtain ⟨hi, hp, _⟩ := h
    simp
    exact ⟨_, List.getElem_mem hi, hp⟩


end Go.Proofs.YtdkjkbbibdppoaaGreatDoor.Small
