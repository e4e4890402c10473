/- Walks: a view's methods. -/
import Derived.Test.YthoicieckodneaaGreatDoorVwW1
namespace Go.Proofs.YthoicieckodneaaGreatDoor.Loc
open Go.RowKit Utf All Small Strs Build EncC Pat Cls Dec Go.Proofs.YthoicieckodneaaGreatDoor.Sys
set_option linter.unusedVariables false
set_option linter.unusedSimpArgs false

def stopZ (S : List Nat) (k : Int) : Int := if 0 ≤ k ∧ k < S.length then ((S.getD k.toNat 0 : Nat) : Int) else 0
def inZ (S : List Nat) (k : Int) : Bool := decide (0 ≤ k ∧ k < S.length)
def intsN (S : List Nat) : List Int := S.map fun (n : Nat) => (n : Int)
theorem nats_ints (S : List Nat) : natsV S = (intsN S).map (Value.int .i64) := by unfold natsV intsN; rw [List.map_map]; rfl
theorem intsN_at (S : List Nat) (k : Nat) : (intsN S).getD k 0 = ((S.getD k 0 : Nat) : Int) := by
  unfold intsN
  rw [List.getD_eq_getElem?_getD, List.getD_eq_getElem?_getD, List.getElem?_map]
  cases S[k]? <;> rfl
theorem nats_row {w : World} {X : Option Addr} {S : List Nat} {k : Nat} (h : Row w X (natsV S)) (hk : k < S.length) : ∃ b off, X = some ⟨b, off, none⟩ ∧ w.cell? ⟨b, off + k, none⟩ = some (.int .i64 ((S.getD k 0 : Nat) : Int)) := by
  rw [nats_ints] at h
  obtain ⟨b, off, e, hc⟩ := row_ints h (k := k) (by unfold intsN; simpa using hk)
  rw [intsN_at] at hc
  exact ⟨b, off, e, hc⟩
section
variable {vb : Nat} {E : Option Addr} {cE : Nat} {F : Option Addr} {cF : Nat} {L : List It} {S : List Nat} {w : World}
set_option maxHeartbeats 1000000 in
theorem view_text (h : VwR w vb E cE F cF L S) : Calls Tryz.prog 36 #[.pointer (some ⟨vb, 0, none⟩)] w fun e w' => e = .returned (.string ⟨(textI L).toArray⟩) ∧ w = w' := by
  have k1 := h.box.cell (j := 1) (v := .string ⟨(textI L).toArray⟩) rfl
  clear h
  generalize textI L = t at *
  go_enter Tryz.func36, Tryz.ntmps36
  go_wp2
  go_ret
  exact ⟨rfl, rfl⟩
set_option maxHeartbeats 1000000 in
theorem view_len (h : VwR w vb E cE F cF L S) (hs : 1 ≤ S.length) (hl : S.length ≤ 100000) : Calls Tryz.prog 35 #[.pointer (some ⟨vb, 0, none⟩)] w fun e w' => e = .returned (.int .i64 ((S.length : Int) - 1)) ∧ w = w' := by
  have k1 := h.box.cell (j := 2) (v := .slice F S.length cF) rfl
  clear h
  generalize S.length = n at *
  have i1 : IntKind.i64.wrap ((n : Int) - 1) = (n : Int) - 1 := by rw [IntKind.wrap_i64]; omega
  go_enter Tryz.func35, Tryz.ntmps35
  go_wp2
  go_ret
  exact ⟨by first | rfl | go_num, rfl⟩
set_option maxHeartbeats 2000000 in
theorem view_stop (h : VwR w vb E cE F cF L S) (k : Int) (hk : i64 k) : Calls Tryz.prog 32 #[.pointer (some ⟨vb, 0, none⟩), .int .i64 k] w fun e w' => e = .returned (.tuple #[.int .i64 (stopZ S k), .bool (inZ S k)]) ∧ w = w' := by
  have k1 := h.box.cell (j := 2) (v := .slice F S.length cF) rfl
  have HR := Lib.hid h.stops
  clear h
  by_cases h0 : k < 0
  · have HZ : Hid (stopZ S k = 0 ∧ inZ S k = false) := Lib.hid ⟨by unfold stopZ; rw [if_neg (by omega)], by unfold inZ; rw [decide_eq_false_iff_not]; omega⟩
    rw [HZ.out.1, HZ.out.2]
    go_enter Tryz.func32, Tryz.ntmps32
    go_wp2
    go_ret2
    exact ⟨rfl, rfl⟩
  · by_cases h1 : k < S.length
    · obtain ⟨m, rfl⟩ := Int.eq_ofNat_of_zero_le (by omega : 0 ≤ k)
      have hm : m < S.length := by omega
      obtain ⟨b, off, rfl, hc⟩ := nats_row HR.out hm
      have HZ : Hid (stopZ S (m : Int) = ((S.getD m 0 : Nat) : Int) ∧ inZ S (m : Int) = true) := Lib.hid ⟨by unfold stopZ; rw [if_pos (by omega)]; rfl, by unfold inZ; rw [decide_eq_true_iff]; omega⟩
      rw [HZ.out.1, HZ.out.2]
      generalize S.getD m 0 = v at *
      generalize S.length = n at *
      have i1 : ¬ ((m : Int) ≥ (n : Int)) := by omega
      have i2 : (0 : Int) ≤ (m : Int) := by omega
      have i3 : ¬ ((m : Int) < 0) := by omega
      go_enter Tryz.func32, Tryz.ntmps32
      go_wp2
      go_ret2
      exact ⟨rfl, rfl⟩
    · have HZ : Hid (stopZ S k = 0 ∧ inZ S k = false) := Lib.hid ⟨by unfold stopZ; rw [if_neg (by omega)], by unfold inZ; rw [decide_eq_false_iff_not]; omega⟩
      rw [HZ.out.1, HZ.out.2]
      generalize S.length = n at *
      have i1 : k ≥ (n : Int) := by omega
      go_enter Tryz.func32, Tryz.ntmps32
      go_wp2
      go_ret2
      exact ⟨rfl, rfl⟩
set_option maxHeartbeats 4000000 in
set_option maxRecDepth 100000 in
theorem view_stops (h : VwR w vb E cE F cF L S) (hl : S.length ≤ 100000) : Calls Tryz.prog 34 #[.pointer (some ⟨vb, 0, none⟩)] w fun e w' => ∃ G c', e = .returned (.slice G S.length c') ∧ Row w' G (natsV S) ∧ Ext w w' := by
  have HV := Lib.hid h
  have k1 := h.box.cell (j := 2) (v := .slice F S.length cF) rfl
  have HST : Hid (∀ W (m : Nat), m < S.length → Ext w W → Calls Tryz.prog 32 #[.pointer (some ⟨vb, 0, none⟩), .int .i64 (m : Int)] W fun e w' => e = .returned (.tuple #[.int .i64 ((S.getD m 0 : Nat) : Int), .bool true]) ∧ W = w') := Lib.hid fun W m hm hW => by
    have hh := view_stop (HV.out.ext hW) (m : Int) ⟨by omega, by omega⟩
    have e1 : stopZ S (m : Int) = ((S.getD m 0 : Nat) : Int) := by unfold stopZ; rw [if_pos (by omega)]; rfl
    have e2 : inZ S (m : Int) = true := by unfold inZ; rw [decide_eq_true_iff]; omega
    rw [e1, e2] at hh
    exact hh
  have HSN : Hid (∀ k, k < S.length → natsV (S.take (k + 1)) = natsV (S.take k) ++ [.int .i64 ((S.getD k 0 : Nat) : Int)]) := Lib.hid fun k hk => by
    unfold natsV
    rw [List.take_succ_eq_append_getElem hk, List.map_append, List.getD_eq_getElem?_getD, List.getElem?_eq_getElem hk]; rfl
  have HTK : Hid (natsV (S.take S.length) = natsV S) := Lib.hid (by rw [List.take_length])
  clear h
  generalize hn : S.length = n at *
  have HN := Lib.hid hn
  clear hn
  go_enter Tryz.func34, Tryz.ntmps34
  go_wp2
  go_loopw [4, 5, 6, 7, 15] (fun v _ _ _ i wr => ∃ (k : Nat) (G : Option Addr) (c' : Nat), k ≤ n ∧ i = .int .i64 k ∧ v = .slice G k c' ∧ Acc 3 1 w wr G c' k (natsV (S.take k))) (fun _ _ _ _ i _ => n - (intOf i).toNat)
  case atStart => exact ⟨0, none, 0, Nat.zero_le _, rfl, rfl, Acc.start _ _ _⟩
  case round =>
    obtain ⟨k, G, c', hk, rfl, rfl, hacc⟩ := hrel
    by_cases hlt : k < n
    · have HS := Lib.hid (HSN.out k hlt)
      have HSX := Lib.hid (fun W => HST.out W k hlt)
      have HA := Lib.hid hacc
      generalize S.getD k 0 = y at *
      generalize natsV (S.take k) = out at *
      have hxw := hacc.ext
      clear hacc
      go_wp2_with (first
        | (refine (HSX.out _ hxw).mono ?_; rintro e w5 ⟨rfl, rfl⟩)
        | (at_builtin; refine wp_app ei_int rfl (.tmp 24) (.tmp 26) rfl w _ G c' k _ rfl HA.out [.int .i64 (y : Int)] 1 1 rfl rfl (by simp [Value.oneCell']) (by omega) (by unfold maxLen; omega) ?_; intro A1 c1 w6 hA6 _ _))
      exact ⟨⟨k + 1, A1, c1, by omega, by go_num, rfl, by rw [HS.out]; exact hA6⟩, by simp [intOf]; omega⟩
    · have e : k = n := by omega
      subst e
      rw [HTK.out] at hacc
      go_wp2
      go_ret
      first
        | exact ⟨G, c', rfl, hacc.row, hacc.ext⟩
        | exact ⟨G, ⟨c', rfl⟩, hacc.row, hacc.ext⟩
end
end Go.Proofs.YthoicieckodneaaGreatDoor.Loc
