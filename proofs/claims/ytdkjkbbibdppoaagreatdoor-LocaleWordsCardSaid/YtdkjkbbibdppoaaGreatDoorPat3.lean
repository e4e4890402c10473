/- Patterns of numbers: the first piece of a kind; how many are of a kind. (Printed by wip/gen/pat3.py.) -/
import Derived.Test.YtdkjkbbibdppoaaGreatDoorPat2
import Derived.Deep.MidRow
namespace Go.Proofs.YtdkjkbbibdppoaaGreatDoor.Pat
open Go.RowKit Utf All Small
set_option linter.unusedVariables false
set_option linter.unusedSimpArgs false

def pcA (p : Pc) : Value := .agg #[.int .i64 p.1, .string ⟨p.2.toArray⟩]
theorem pcs_at (l : List Pc) (k : Nat) (hk : k < l.length) : (pcsV l)[k * 2]? = some (.int .i64 l[k].1) ∧ (pcsV l)[k * 2 + 1]? = some (.string ⟨l[k].2.toArray⟩) := by
  induction l generalizing k with
  | nil => simp at hk
  | cons p l ih =>
    have e : pcsV (p :: l) = .int .i64 p.1 :: .string ⟨p.2.toArray⟩ :: pcsV l := rfl
    cases k with
    | zero => rw [e]; exact ⟨rfl, rfl⟩
    | succ k =>
      have := ih k (by simpa using hk)
      rw [e]
      simp only [Nat.succ_mul, List.getElem_cons_succ]
      exact this
theorem row_pc {w : World} {A : Option Addr} {l : List Pc} (h : Row w A (pcsV l)) {k : Nat} (hk : k < l.length) :
    ∃ b off, A = some ⟨b, off, none⟩ ∧ w.cell? ⟨b, off + k * 2, none⟩ = some (.int .i64 l[k].1) ∧ w.cell? ⟨b, off + k * 2 + 1, none⟩ = some (.string ⟨l[k].2.toArray⟩) := by
  obtain ⟨b, off, e, hc⟩ := h.at_ (k := k * 2) (by rw [pcsV_len]; omega)
  obtain ⟨h1, h2⟩ := pcs_at l k hk
  exact ⟨b, off, e, hc _ _ h1, by rw [Nat.add_assoc]; exact hc _ _ h2⟩
theorem infoPc : (Tryz.prog.info? 96).map (·.size) = some 2 := by kernel_rfl
theorem pc_range {w : World} {b off k : Nat} {x : Pc} (h1 : w.cell? ⟨b, off + k * 2, none⟩ = some (.int .i64 x.1)) (h2 : w.cell? ⟨b, off + k * 2 + 1, none⟩ = some (.string ⟨x.2.toArray⟩)) : w.rangeAt b (off + k * 2) [.int .i64 x.1, .string ⟨x.2.toArray⟩] := by
  intro j v hv
  match j with
  | 0 => simp at hv; subst hv; exact h1
  | 1 => simp at hv; subst hv; exact h2
  | j + 2 => simp at hv
/-- of a kind? -/
def isK (n : Int) (p : Pc) : Bool := p.1 == n

set_option maxHeartbeats 1000000 in
theorem isK_half (x : Pc) (w : World) : Calls Tryz.prog 94 #[pcA x] w fun e w' => e = .returned (.bool (isK 4 x)) ∧ Ext w w' := by
  obtain ⟨k, t⟩ := x
  unfold pcA isK
  go_enter Tryz.func94, Tryz.ntmps94
  go_wp2
  go_ret
  exact ⟨rfl, (Ext.refl _).alloc (Nat.le_refl _) _⟩
set_option maxHeartbeats 1000000 in
theorem index_half (A : Option Addr) (c : Nat) (l : List Pc) (w : World) (hr : Row w A (pcsV l)) (hl : l.length ≤ 10000000000) :
    Calls Tryz.prog 48 #[.slice A l.length c, .func (.func 94) #[] #[]] w fun e w' => e = .returned (.int .i64 (idxF (isK 4) l)) ∧ Ext w w' := by
  go_enter Tryz.func48, Tryz.ntmps48
  go_wp2
  go_loopw [5, 8] (fun _ i wr => ∃ k : Nat, k ≤ l.length ∧ i = .int .i64 k ∧ Ext w wr ∧ Hid ((l.take k).any (isK 4) = false)) (fun _ i _ => l.length - (intOf i).toNat)
  case atStart => exact ⟨0, Nat.zero_le _, rfl, Ext.refl _, Lib.hid (by simp)⟩
  case round =>
    obtain ⟨k, hk, rfl, hx, HK⟩ := hrel
    by_cases hlt : k < l.length
    · obtain ⟨b, off, rfl, hc1, hc2⟩ := row_pc (hr.below hx (Nat.le_refl _)) hlt
      have HA := Lib.hid (idxF_at (isK 4) l k hlt HK.out)
      have HT := Lib.hid (any_snoc (isK 4) l k hlt)
      have HR := Lib.hid (pc_range hc1 hc2)
      have HX := Lib.hid hx
      clear hx
      generalize l[k] = x at *
      cases hb : isK 4 x
      · have HB := Lib.hid hb
        clear hb
        go_wp2_with (first | (refine wpList_load_mid rfl 96 (.tmp 14) rfl b (off + k * 2) rfl [.int .i64 x.1, .string ⟨x.2.toArray⟩] _ HR.out Tryz.underlying96 rfl infoPc ?_) | (refine (isK_half x _).mono ?_; rintro e w2 ⟨rfl, hx2⟩; rw [HB.out]))
        go_roundw
        case rel => exact ⟨k + 1, by omega, by go_num, HX.out.trans hx2, Lib.hid (by rw [HT.out, HK.out, HB.out]; rfl)⟩
        case measure => simp [intOf]; omega
      · have HB := Lib.hid hb
        clear hb
        go_wp2_with (first | (refine wpList_load_mid rfl 96 (.tmp 14) rfl b (off + k * 2) rfl [.int .i64 x.1, .string ⟨x.2.toArray⟩] _ HR.out Tryz.underlying96 rfl infoPc ?_) | (refine (isK_half x _).mono ?_; rintro e w2 ⟨rfl, hx2⟩; rw [HB.out]))
        go_ret
        exact ⟨by rw [HA.out HB.out]; rfl, HX.out.trans hx2⟩
    · have e : k = l.length := by omega
      subst e
      rw [List.take_length] at HK
      go_wp2
      go_ret
      exact ⟨by rw [idxF_none _ _ HK.out]; rfl, hx⟩

set_option maxHeartbeats 1000000 in
theorem isK_parse (x : Pc) (w : World) : Calls Tryz.prog 49 #[pcA x] w fun e w' => e = .returned (.bool (isK 5 x)) ∧ Ext w w' := by
  obtain ⟨k, t⟩ := x
  unfold pcA isK
  go_enter Tryz.func49, Tryz.ntmps49
  go_wp2
  go_ret
  exact ⟨rfl, (Ext.refl _).alloc (Nat.le_refl _) _⟩
set_option maxHeartbeats 1000000 in
theorem index_parse (A : Option Addr) (c : Nat) (l : List Pc) (w : World) (hr : Row w A (pcsV l)) (hl : l.length ≤ 10000000000) :
    Calls Tryz.prog 48 #[.slice A l.length c, .func (.func 49) #[] #[]] w fun e w' => e = .returned (.int .i64 (idxF (isK 5) l)) ∧ Ext w w' := by
  go_enter Tryz.func48, Tryz.ntmps48
  go_wp2
  go_loopw [5, 8] (fun _ i wr => ∃ k : Nat, k ≤ l.length ∧ i = .int .i64 k ∧ Ext w wr ∧ Hid ((l.take k).any (isK 5) = false)) (fun _ i _ => l.length - (intOf i).toNat)
  case atStart => exact ⟨0, Nat.zero_le _, rfl, Ext.refl _, Lib.hid (by simp)⟩
  case round =>
    obtain ⟨k, hk, rfl, hx, HK⟩ := hrel
    by_cases hlt : k < l.length
    · obtain ⟨b, off, rfl, hc1, hc2⟩ := row_pc (hr.below hx (Nat.le_refl _)) hlt
      have HA := Lib.hid (idxF_at (isK 5) l k hlt HK.out)
      have HT := Lib.hid (any_snoc (isK 5) l k hlt)
      have HR := Lib.hid (pc_range hc1 hc2)
      have HX := Lib.hid hx
      clear hx
      generalize l[k] = x at *
      cases hb : isK 5 x
      · have HB := Lib.hid hb
        clear hb
        go_wp2_with (first | (refine wpList_load_mid rfl 96 (.tmp 14) rfl b (off + k * 2) rfl [.int .i64 x.1, .string ⟨x.2.toArray⟩] _ HR.out Tryz.underlying96 rfl infoPc ?_) | (refine (isK_parse x _).mono ?_; rintro e w2 ⟨rfl, hx2⟩; rw [HB.out]))
        go_roundw
        case rel => exact ⟨k + 1, by omega, by go_num, HX.out.trans hx2, Lib.hid (by rw [HT.out, HK.out, HB.out]; rfl)⟩
        case measure => simp [intOf]; omega
      · have HB := Lib.hid hb
        clear hb
        go_wp2_with (first | (refine wpList_load_mid rfl 96 (.tmp 14) rfl b (off + k * 2) rfl [.int .i64 x.1, .string ⟨x.2.toArray⟩] _ HR.out Tryz.underlying96 rfl infoPc ?_) | (refine (isK_parse x _).mono ?_; rintro e w2 ⟨rfl, hx2⟩; rw [HB.out]))
        go_ret
        exact ⟨by rw [HA.out HB.out]; rfl, HX.out.trans hx2⟩
    · have e : k = l.length := by omega
      subst e
      rw [List.take_length] at HK
      go_wp2
      go_ret
      exact ⟨by rw [idxF_none _ _ HK.out]; rfl, hx⟩

set_option maxHeartbeats 1000000 in
theorem contains_half (A : Option Addr) (c : Nat) (l : List Pc) (w : World) (hr : Row w A (pcsV l)) (hl : l.length ≤ 10000000000) :
    Calls Tryz.prog 95 #[.slice A l.length c, .func (.func 94) #[] #[]] w fun e w' => e = .returned (.bool (l.any (isK 4))) ∧ Ext w w' := by
  have HF := Lib.hid (idxF_sign (isK 4) l)
  go_enter Tryz.func95, Tryz.ntmps95
  go_wp2_with fail
  refine (index_half _ _ _ _ hr hl).mono ?_; rintro e w' ⟨rfl, hx⟩
  go_wp2
  go_ret
  exact ⟨by rw [← HF.out]; rfl, hx⟩

/-- how many are of a kind -/
def cntK (n : Int) (l : List Pc) : Nat := l.countP (isK n)
set_option maxHeartbeats 1000000 in
theorem count_ (A : Option Addr) (c : Nat) (l : List Pc) (n : Int) (w : World) (hr : Row w A (pcsV l)) (hl : l.length ≤ 10000000000) :
    Calls Tryz.prog 51 #[.slice A l.length c, .int .i64 n] w fun e w' => e = .returned (.int .i64 (cntK n l)) ∧ Ext w w' := by
  go_enter Tryz.func51, Tryz.ntmps51
  go_wp2
  go_loopw [5, 10] (fun m i wr => ∃ k : Nat, k ≤ l.length ∧ i = .int .i64 k ∧ m = .int .i64 ((cntK n (l.take k) : Nat) : Int) ∧ Ext w wr) (fun _ i _ => l.length - (intOf i).toNat)
  case atStart => exact ⟨0, Nat.zero_le _, rfl, by simp [cntK], Ext.refl _⟩
  case round =>
    obtain ⟨k, hk, rfl, rfl, hx⟩ := hrel
    by_cases hlt : k < l.length
    · obtain ⟨b, off, rfl, hc1, hc2⟩ := row_pc (hr.below hx (Nat.le_refl _)) hlt
      have hcb : cntK n (l.take k) ≤ k := by unfold cntK; exact Nat.le_trans List.countP_le_length (by simp; omega)
      have HT : Hid (cntK n (l.take (k + 1)) = cntK n (l.take k) + (if isK n l[k] then 1 else 0)) := Lib.hid (by
        unfold cntK; rw [List.take_succ_eq_append_getElem hlt, List.countP_append]; simp [List.countP_cons])
      have HR := Lib.hid (pc_range hc1 hc2)
      have HX := Lib.hid hx
      clear hx
      generalize cntK n (l.take k) = m at *
      generalize l[k] = x at *
      cases hb : x.1 == n
      · have HB : Hid (isK n x = false) := Lib.hid hb
        go_wp2_with (refine wpList_load_mid rfl 96 (.tmp 12) rfl b (off + k * 2) rfl [.int .i64 x.1, .string ⟨x.2.toArray⟩] _ HR.out Tryz.underlying96 rfl infoPc ?_)
        go_roundw
        case rel => exact ⟨k + 1, by omega, by go_num, by rw [HT.out, HB.out]; rfl, HX.out.alloc_ _⟩
        case measure => simp [intOf]; omega
      · have HB : Hid (isK n x = true) := Lib.hid hb
        go_wp2_with (refine wpList_load_mid rfl 96 (.tmp 12) rfl b (off + k * 2) rfl [.int .i64 x.1, .string ⟨x.2.toArray⟩] _ HR.out Tryz.underlying96 rfl infoPc ?_)
        go_roundw
        case rel => exact ⟨k + 1, by omega, by go_num, by rw [HT.out, HB.out]; go_num, HX.out.alloc_ _⟩
        case measure => simp [intOf]; omega
    · have e : k = l.length := by omega
      subst e
      rw [List.take_length]
      go_wp2
      go_ret
      exact ⟨rfl, hx⟩
end Go.Proofs.YtdkjkbbibdppoaaGreatDoor.Pat
