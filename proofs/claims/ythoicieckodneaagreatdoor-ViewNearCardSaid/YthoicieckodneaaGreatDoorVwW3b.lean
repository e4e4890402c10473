/- Walks: a view's nearest number. -/
import Derived.Test.YthoicieckodneaaGreatDoorVwW3
import Derived.WalkMore
namespace Go.Proofs.YthoicieckodneaaGreatDoor.Loc
open Go.RowKit Utf All Small Strs Build EncC Pat Cls Dec Go.Proofs.YthoicieckodneaaGreatDoor.Sys
set_option linter.unusedVariables false
set_option linter.unusedSimpArgs false

section
variable {vb : Nat} {E : Option Addr} {cE : Nat} {F : Option Addr} {cF : Nat} {L : List It} {S : List Nat} {w : World}
set_option maxHeartbeats 4000000 in
set_option maxRecDepth 100000 in
theorem view_atom (h : VwR w vb E cE F cF L S) (off : Int) (hs : (intsN S).Pairwise (· < ·)) (hl : S.length ≤ 100000) : Calls Tryz.prog 40 #[.pointer (some ⟨vb, 0, none⟩), .int .i64 off] w fun e w' => e = .returned (.int .i64 (nearTo (intsN S) off S.length)) ∧ Ext w w' := by
  have HR := Lib.hid h.stops
  have k1 := h.box.cell (j := 2) (v := .slice F S.length cF) rfl
  have HNS : Hid (∀ k, k < S.length → off < (S.getD k 0 : Nat) → nearTo (intsN S) off S.length = nearTo (intsN S) off k) := Lib.hid fun k hk ho => near_stop hs (k := k) (by unfold intsN; simpa using hk) (by rw [intsN_at]; exact ho) S.length (Nat.le_of_lt hk) (by unfold intsN; simp)
  have HN1 : Hid (∀ k, ((S.getD k 0 : Nat) : Int) ≤ off → nearTo (intsN S) off (k + 1) = (k : Int)) := Lib.hid fun k ho => by
    unfold nearTo; rw [intsN_at, if_pos ho]
  have HN0 : Hid (nearTo (intsN S) off 0 = 0) := Lib.hid rfl
  clear h hs
  go_enter Tryz.func40, Tryz.ntmps40
  go_wp2
  go_step3
  go_wp2
  go_step3
  go_wp2
  go_loopw [5, 6, 7, 13] (fun v _ _ i wr => ∃ (k : Nat), k ≤ S.length ∧ i = .int .i64 k ∧ v = .int .i64 (nearTo (intsN S) off k) ∧ Ext w wr) (fun _ _ _ i _ => S.length - (intOf i).toNat)
  case atStart => exact ⟨0, Nat.zero_le _, rfl, by rw [HN0.out], Ext.refl _⟩
  case round =>
    obtain ⟨k, hk, rfl, rfl, hx⟩ := hrel
    by_cases hlt : k < S.length
    · obtain ⟨b, o, rfl, hc⟩ := nats_row (HR.out.below hx (Nat.le_refl _)) hlt
      have HNK := Lib.hid (HNS.out k hlt)
      have HNJ := Lib.hid (HN1.out k)
      generalize S.getD k 0 = y at *
      have HX := Lib.hid hx
      clear hx
      by_cases ho : off < (y : Int)
      · have HE := Lib.hid (HNK.out ho)
        have i1 : (y : Int) > off := ho
        go_wp2
        first | go_ret | (rw [Exit.noGoto_ret]; go_ret)
        exact ⟨by rw [HE.out]; first | done | rfl, HX.out⟩
      · have HE := Lib.hid (HNJ.out (by omega))
        have i1 : ¬ ((y : Int) > off) := by omega
        go_wp2
        go_roundw
        case rel => exact ⟨k + 1, by omega, by go_num, by rw [HE.out], HX.out⟩
        case measure => simp [intOf]; omega
    · have e : k = S.length := by omega
      subst e
      go_wp2
      first | go_ret | (rw [Exit.noGoto_ret]; go_ret)
      exact ⟨rfl, hx⟩
end
end Go.Proofs.YthoicieckodneaaGreatDoor.Loc
