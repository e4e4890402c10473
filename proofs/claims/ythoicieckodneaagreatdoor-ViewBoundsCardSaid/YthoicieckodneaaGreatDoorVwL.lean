/- The example of layer 16's laws (lives). -/
import Derived.Test.YthoicieckodneaaGreatDoorVwW2
import Derived.Test.YthoicieckodneaaGreatDoorVwW3
namespace Go.Proofs.YthoicieckodneaaGreatDoor.Loc
open Go.RowKit Utf All Small Strs Build EncC Pat Cls Dec Go.Proofs.YthoicieckodneaaGreatDoor.Sys
set_option linter.unusedVariables false
set_option linter.unusedSimpArgs false

def rLiv : Rec := ⟨[101, 110], [35, 44, 35, 35, 48, 46, 48, 48], [108, 97, 116, 110], [46], [44], [45], [], []⟩
def pLiv : Pt := (refP rLiv.pattern).getD lives1
theorem liv_b : ((refP rLiv.pattern).isSome && okB (parseF rLiv.pattern) pLiv) = true := by decide +kernel
theorem liv_small : (decide (rLiv.pattern.length ≤ 1000) && nameZ rLiv.name && pcsB pLiv) = true := by decide +kernel
theorem liv_may : mayB (locOf rLiv pLiv) = true := by decide +kernel
theorem liv_val : valOk pLiv = true := by decide +kernel
theorem liv_num : numB pLiv = true := by decide +kernel
theorem both_liv : Both rLiv pLiv := by
  have h := liv_b
  rw [Bool.and_eq_true] at h
  have hs := liv_small
  unfold pcsB at hs
  simp only [Bool.and_eq_true, decide_eq_true_eq, List.all_eq_true] at hs
  refine ⟨okB_eq h.2, ?_, hs.1.1, hs.1.2, may_of liv_may, hs.2.1, fun q hq x hx => ⟨((hs.2.2 q hq) x hx).1.1, ((hs.2.2 q hq) x hx).1.2, ((hs.2.2 q hq) x hx).2⟩, valOk_of liv_val⟩
  unfold pLiv
  cases hr : refP rLiv.pattern with
  | none => rw [hr] at h; cases h.1
  | some p => rfl
def dLiv : Dr := ⟨true, [1, 2, 3, 4], true, [5]⟩
theorem liv_text : textI (itemsF (locOf rLiv pLiv) dLiv) = [45, 49, 44, 50, 51, 52, 46, 53] := by decide +kernel
theorem liv_stops : stopsP (itemsF (locOf rLiv pLiv) dLiv) (ahead (locOf rLiv pLiv) true).length = [1, 2, 4, 5, 6, 7, 8] := by decide +kernel
theorem knd_liv : Knd rLiv pLiv := ⟨both_liv, by
  have hb := liv_num
  unfold numB at hb
  simp only [Bool.and_eq_true, decide_eq_true_eq] at hb
  exact ⟨hb.1.1.1, hb.1.1.2, hb.1.2, hb.2⟩⟩
theorem ok_liv : DrOk dLiv := ⟨by decide, by decide, by decide⟩
set_option maxHeartbeats 4000000 in
set_option maxRecDepth 100000 in
theorem lives16 (w : World) (hT : Tabs w) : Calls Tryz.prog 37 #[] w fun e w' => e = .returned (.bool true) ∧ Ext w w' := by
  have HNW : Hid (Calls Tryz.prog 43 #[.agg #[.string ⟨#[101, 110]⟩, .string ⟨#[35, 44, 35, 35, 48, 46, 48, 48]⟩, .string ⟨#[108, 97, 116, 110]⟩, .string ⟨#[46]⟩, .string ⟨#[44]⟩, .string ⟨#[45]⟩, .string ⟨#[]⟩, .string ⟨#[]⟩]] w fun e w' => ∃ g A B C D c d a b, e = .returned (.tuple #[.pointer (some ⟨g, 0, none⟩), .nilIface]) ∧ LocR w' g A B C D c d a b (locOf rLiv pLiv) ∧ Ext w w') := Lib.hid
    (new_ rLiv pLiv w both_liv.pat (by have := both_liv.plen; omega) both_liv.nm both_liv.may hT)
  have HVN : Hid (∀ g A B C D c d a b W X Y, LocR W g A B C D c d a b (locOf rLiv pLiv) → Row W X [.int .i64 1, .int .i64 2, .int .i64 3, .int .i64 4] → Row W Y [.int .i64 5] → Calls Tryz.prog 64 #[.pointer (some ⟨g, 0, none⟩), .agg #[.bool true, .slice X 4 4, .bool true, .slice Y 1 1]] W fun e w' => ∃ vb E cE F cF, e = .returned (.pointer (some ⟨vb, 0, none⟩)) ∧ VwR w' vb E cE F cF (itemsF (locOf rLiv pLiv) dLiv) [1, 2, 4, 5, 6, 7, 8] ∧ Ext W w') := Lib.hid fun g A B C D c d a b W X Y h1 h2 h3 => by
    have h := view_new g A B C D X Y c d a b 4 1 dLiv rLiv pLiv W h1 knd_liv ⟨h2, h3⟩ ok_liv (by decide) (by decide)
    refine h.mono ?_
    rintro e w' ⟨vb, E, cE, F, cF, he, hv, hx⟩
    refine ⟨vb, E, cE, F, cF, he, ?_, hx⟩
    have hs := liv_stops
    have e : stopsP (itemsF (locOf rLiv pLiv) dLiv) (ahead (locOf rLiv pLiv) dLiv.neg).length = [1, 2, 4, 5, 6, 7, 8] := hs
    rw [e] at hv
    exact hv.vw
  have HTX : Hid (∀ W vb E cE F cF, VwR W vb E cE F cF (itemsF (locOf rLiv pLiv) dLiv) [1, 2, 4, 5, 6, 7, 8] → Calls Tryz.prog 36 #[.pointer (some ⟨vb, 0, none⟩)] W fun e w' => e = .returned (.string ⟨#[45, 49, 44, 50, 51, 52, 46, 53]⟩) ∧ W = w') := Lib.hid fun W vb E cE F cF h => by
    have hh := view_text h
    rw [liv_text] at hh
    exact hh
  have HST : Hid (∀ W vb E cE F cF, VwR W vb E cE F cF (itemsF (locOf rLiv pLiv) dLiv) [1, 2, 4, 5, 6, 7, 8] → Calls Tryz.prog 34 #[.pointer (some ⟨vb, 0, none⟩)] W fun e w' => ∃ G c', e = .returned (.slice G 7 c') ∧ Row w' G [.int .i64 1, .int .i64 2, .int .i64 4, .int .i64 5, .int .i64 6, .int .i64 7, .int .i64 8] ∧ Ext W w') := Lib.hid fun W vb E cE F cF h => view_stops h (by decide)
  have HSM : Hid (∀ W G H c e, Row W G [.int .i64 1, .int .i64 2, .int .i64 4, .int .i64 5, .int .i64 6, .int .i64 7, .int .i64 8] → Row W H [.int .i64 1, .int .i64 2, .int .i64 4, .int .i64 5, .int .i64 6, .int .i64 7, .int .i64 8] → Calls Tryz.prog 33 #[.slice G 7 c, .slice H 7 e] W fun e w' => e = .returned (.bool true) ∧ Ext W w') := Lib.hid fun W G H c e h1 h2 => by
    have hh := same G H c e [1, 2, 4, 5, 6, 7, 8] [1, 2, 4, 5, 6, 7, 8] W h1 h2 (by decide) (by decide)
    rw [decide_eq_true rfl] at hh
    exact hh
  clear hT
  go_enter Tryz.func37, Tryz.ntmps37
  go_upto_region 4 with (go_at_call 43; with_reducible refine HNW.out.mono ?_; rintro e w2 ⟨g, A, B, C, D, c, d, a, b, rfl, hLR, hx2⟩)
  have hb1 := (Box.new w2 3 [.int .i64 1, .int .i64 2, .int .i64 3, .int .i64 4]).alloc (.cells ([.int .i64 5] : List Value).toArray 3)
  have hc1 := Box.new (w2.alloc (.cells ([.int .i64 1, .int .i64 2, .int .i64 3, .int .i64 4] : List Value).toArray 3)) 3 [.int .i64 5]
  have hs1 : (w2.alloc (.cells ([.int .i64 1, .int .i64 2, .int .i64 3, .int .i64 4] : List Value).toArray 3)).heap.size = w2.heap.size + 1 := by simp
  rw [hs1] at hc1
  have hx3 : Ext w2 ((w2.alloc (.cells ([.int .i64 1, .int .i64 2, .int .i64 3, .int .i64 4] : List Value).toArray 3)).alloc (.cells ([.int .i64 5] : List Value).toArray 3)) := Ext.alloc_ (Ext.alloc_ (Ext.refl _) _) _
  have HR1 := Lib.hid hb1.row
  have HR2 := Lib.hid hc1.row
  have HL3 := Lib.hid (hLR.ext hx3)
  have HX3 := Lib.hid (hx2.trans hx3)
  clear hb1 hc1 hs1 hx3 hLR hx2
  go_upto_region 7 with (go_at_call 64; with_reducible refine (HVN.out _ _ _ _ _ _ _ _ _ _ _ _ HL3.out HR1.out HR2.out).mono ?_; rintro e w4 ⟨vb, E, cE, F, cF, rfl, hv4, hx4⟩)
  have HV4 := Lib.hid hv4
  have HX4 := Lib.hid (HX3.out.trans hx4)
  clear hv4 hx4
  go_wp2_with (first
    | (go_at_call 36; with_reducible refine (HTX.out _ _ _ _ _ _ HV4.out).mono ?_; rintro e w5 ⟨rfl, rfl⟩)
    | (go_at_call 34; with_reducible refine (HST.out _ _ _ _ _ _ HV4.out).mono ?_; rintro e w6 ⟨G, cG, rfl, hrG, hx6⟩; have hx7 : Ext w6 (w6.alloc (.cells ([.int .i64 1, .int .i64 2, .int .i64 4, .int .i64 5, .int .i64 6, .int .i64 7, .int .i64 8] : List Value).toArray 3)) := Ext.alloc_ (Ext.refl _) _; have HRG := Lib.hid (hrG.below hx7 (Nat.le_refl _)); have HRH := Lib.hid (Box.new w6 3 [.int .i64 1, .int .i64 2, .int .i64 4, .int .i64 5, .int .i64 6, .int .i64 7, .int .i64 8]).row)
    | (go_at_call 33; with_reducible refine (HSM.out _ _ _ _ _ HRG.out HRH.out).mono ?_; rintro e w8 ⟨rfl, hx8⟩))
  go_ret
  exact ⟨rfl, HX4.out.trans (hx6.trans (hx7.trans hx8))⟩
end Go.Proofs.YthoicieckodneaaGreatDoor.Loc
