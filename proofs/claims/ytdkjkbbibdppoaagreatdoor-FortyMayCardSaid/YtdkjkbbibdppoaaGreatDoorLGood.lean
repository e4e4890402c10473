/- The document's example records: abacistref11.Good: which texts it picks. -/
import Derived.Test.YtdkjkbbibdppoaaGreatDoorLRef1
namespace Go.Proofs.YtdkjkbbibdppoaaGreatDoor.Loc
open Go.RowKit Utf All Small Strs Build EncC Pat Go.Proofs.YtdkjkbbibdppoaaGreatDoor.Sys
set_option linter.unusedVariables false
set_option linter.unusedSimpArgs false

/-- The text that pick takes. -/
def pickL (ts : List (List UInt8)) (i : Int) : List UInt8 := ts.getD (aroundF i ts.length).toNat []
theorem row_sV {w : World} {A : Option Addr} {ts : List (List UInt8)} (h : Row w A (ts.map sV)) {k : Nat} (hk : k < ts.length) :
    ∃ b off, A = some ⟨b, off, none⟩ ∧ w.cell? ⟨b, off + k, none⟩ = some (sV (ts.getD k [])) := by
  rcases h with h | ⟨b, o, rfl, hc⟩
  · rw [List.map_eq_nil_iff] at h; subst h; exact absurd hk (Nat.not_lt_zero _)
  · refine ⟨b, o, rfl, hc k _ ?_⟩
    rw [List.getElem?_map, List.getD_eq_getElem?_getD, List.getElem?_eq_getElem hk]; rfl
set_option maxHeartbeats 1000000 in
theorem pick_ (A : Option Addr) (c m : Nat) (ts : List (List UInt8)) (i : Int) (w : World) (hm : ts.length = m) (h0 : 0 < m) (h1 : m ≤ 1000) (n1 : -9223372036854775808 ≤ i) (n2 : i ≤ 9223372036854775807) (hr : Row w A (ts.map sV)) :
    Calls Tryz.prog 62 #[.slice A m c, .int .i64 i] w fun e w' => e = .returned (.string ⟨(pickL ts i).toArray⟩) ∧ w = w' := by
  have hb := aroundF_bd i m (by omega)
  have HF : Hid (pickL ts i = ts.getD (aroundF i m).toNat []) := Lib.hid (by unfold pickL; rw [hm])
  have HM := Lib.hid hm
  clear hm
  go_enter Tryz.func62, Tryz.ntmps62
  go_wp2_with fail
  refine (around _ _ _ n1 n2 (by omega) (by omega)).mono ?_; rintro e w2 ⟨rfl, rfl⟩
  generalize aroundF i m = k at *
  obtain ⟨k, rfl⟩ := Int.eq_ofNat_of_zero_le hb.1
  have hk : k < m := by omega
  clear hb
  obtain ⟨b, off, rfl, hc⟩ := row_sV hr (show k < ts.length by rw [HM.out]; exact hk)
  rw [Int.toNat_natCast] at HF
  unfold sV at hc
  generalize ts.getD k [] = s at *
  go_wp2
  go_ret
  exact ⟨by rw [HF.out]; rfl, rfl⟩
end Go.Proofs.YtdkjkbbibdppoaaGreatDoor.Loc
