/- The law FortyNone: of a name that is none there is nothing. (Printed by wip/gen/lforty.py.) -/
import Derived.Test.YtdkjkbbibdppoaaGreatDoorLGet
import Derived.Test.YtdkjkbbibdppoaaGreatDoorForty8
import Derived.Test.YtdkjkbbibdppoaaGreatDoorForty9n
namespace Go.Proofs.YtdkjkbbibdppoaaGreatDoor.Loc
open Go.RowKit Utf All Small Strs Build EncC Pat Cls Dec Go.Proofs.YtdkjkbbibdppoaaGreatDoor.Sys
set_option linter.unusedVariables false
set_option linter.unusedSimpArgs false

set_option maxHeartbeats 4000000 in
set_option maxRecDepth 100000 in
theorem law_FortyNone (s : ByteArray) (w : World) (hs : s.size ≤ maxLen) (hT : Tabs w) : Calls Tryz.prog 9 #[.string s] w fun e w' => e = .returned (.bool true) ∧ Below w.heap.size w w' := by
  have H16 := Lib.hid (few s 16 w hs (by decide))
  generalize fewB s 16 = t at *
  have HF := Lib.hid (fun W => Forty.ref_find t W)
  have HLV := Lib.hid Forty.law12_lives
  by_cases h : 0 ≤ Forty.findZ t
  · obtain ⟨k, hk⟩ := Int.eq_ofNat_of_zero_le h
    have hk40 : k < 40 := by
      have := Forty.findZ_lt t
      omega
    have HG := Lib.hid (get_some t k w hk40 hk hT)
    have hgt : Forty.findZ t ≥ 0 := h
    generalize Forty.findZ t = z at *
    clear h hT hk
    go_enter Tryz.func9, Tryz.ntmps9
    go_wp2_with (first
      | (go_at_call 25; refine H16.out.mono ?_; rintro e w1 ⟨rfl, rfl⟩)
      | (go_at_call 41; refine HG.out.mono ?_; rintro e w2 ⟨g, A, B, C, D, c, d, a, b, rfl, _, hx2⟩)
      | (go_at_call 42; refine (HF.out _).mono ?_; rintro e w3 ⟨rfl, hx3⟩)
      | (go_at_call 43; refine (HLV.out _).mono ?_; rintro e w4 ⟨rfl, hx4⟩))
    go_ret
    exact ⟨rfl, hx2.trans (hx3.trans hx4)⟩
  · have HG := Lib.hid (get_none t w h)
    have hgt : ¬ Forty.findZ t ≥ 0 := h
    have hdz : decide (0 ≤ Forty.findZ t) = false := decide_eq_false h
    have hpz : (0 ≤ Forty.findZ t) = False := eq_false h
    generalize Forty.findZ t = z at *
    clear h hT
    go_enter Tryz.func9, Tryz.ntmps9
    go_wp2_with (first
      | (go_at_call 25; refine H16.out.mono ?_; rintro e w1 ⟨rfl, rfl⟩)
      | (go_at_call 41; refine HG.out.mono ?_; rintro e w2 ⟨rfl, hx2⟩)
      | (go_at_call 42; refine (HF.out _).mono ?_; rintro e w3 ⟨rfl, hx3⟩)
      | (go_at_call 43; refine (HLV.out _).mono ?_; rintro e w4 ⟨rfl, hx4⟩))
    go_ret
    exact ⟨rfl, hx2.trans (hx3.trans hx4)⟩
end Go.Proofs.YtdkjkbbibdppoaaGreatDoor.Loc
