/- The law PasteTexts: a clip's text is the document's; which clips are the same is told as it says. (Printed by wip/gen/law18.py.) -/
import Derived.Test.YtaobgbhgckndkaaGreatDoorJPaW
import Derived.Test.YtaobgbhgckndkaaGreatDoorPaW7
namespace Go.Proofs.YtaobgbhgckndkaaGreatDoor.Loc
open Go.RowKit Utf All Small Strs Build EncC Pat Cls Dec Go.Proofs.YtaobgbhgckndkaaGreatDoor.Sys
set_option linter.unusedVariables false
set_option linter.unusedSimpArgs false
set_option maxHeartbeats 16000000 in
set_option maxRecDepth 1000000 in
theorem law_PasteTexts (A : Option Addr) (ca : Nat) (xs : List Int) (B : Option Addr) (cb : Nat) (ys : List Int) (fa fb : Bool) (w : World) (hr : Row w A (xs.map (Value.int .i64))) (hi : ∀ z ∈ xs, i64 z) (hlx : xs.length ≤ maxLen) (hs : Row w B (ys.map (Value.int .i64))) (hj : ∀ z ∈ ys, i64 z) (hly : ys.length ≤ maxLen) (hT : Tabs w) :
    Calls Tryz.prog 8 #[.slice A xs.length ca, .slice B ys.length cb, .bool fa, .bool fb] w fun e w' => e = .returned (.bool true) ∧ Below w.heap.size w w' := by
  have HTW := Lib.hid hT
  have HLV : Hid (∀ W, Ext w W → Calls Tryz.prog 19 #[] W fun e w' => e = .returned (.bool true) ∧ Ext W w') := Lib.hid fun W hW => lives18 W (HTW.out.ext hW)
  have HPX : Hid (Calls Tryz.prog 32 #[.slice A xs.length ca, .int .i64 9] w fun e w' => ∃ E c', e = .returned (.slice E (pointsL xs 9).length c') ∧ Row w' E ((pointsL xs 9).map (Value.int .i64)) ∧ Ext w w') := Lib.hid ((ref14_points A xs.length ca xs 9 w hr rfl hlx (by decide) hi).mono fun e w' ⟨E, c', h1, h2⟩ => ⟨E, c', h1, h2.row, h2.ext⟩)
  have HPY : Hid (∀ W, Ext w W → Calls Tryz.prog 32 #[.slice B ys.length cb, .int .i64 9] W fun e w' => ∃ E c', e = .returned (.slice E (pointsL ys 9).length c') ∧ Row w' E ((pointsL ys 9).map (Value.int .i64)) ∧ Ext W w') := Lib.hid fun W hW => (ref14_points B ys.length cb ys 9 W (hs.below hW (Nat.le_refl _)) rfl hly (by decide) hj).mono fun e w' ⟨E, c', h1, h2⟩ => ⟨E, c', h1, h2.row, h2.ext⟩
  have hbx := points_bd xs 9
  have hby := points_bd ys 9
  have hnx := points_len xs 9
  have hny := points_len ys 9
  have HBX := Lib.hid hbx
  have HBY := Lib.hid hby
  clear hr hi hlx hs hj hly hT hbx hby
  generalize hxl : xs.length = nx at *
  generalize hyl : ys.length = ny at *
  clear hxl hyl
  generalize pointsL xs 9 = px at *
  generalize pointsL ys 9 = py at *
  go_enter Tryz.func8, Tryz.ntmps8
  go_upto_region 2 with (first
    | (go_at_call 32; with_reducible refine HPX.out.mono ?_; rintro e w1 ⟨E, cE, rfl, hrE, hx1⟩)
    | (refine wpList_store_fresh rfl 67 (.tmp 9) (.tmp 14) rfl ([.bool fa, .slice E px.length cE] : List Value).toArray 67 _ rfl rfl infoC18 rfl (by simp [Value.oneCell']) ?_))
  have HB2 := Lib.hid (Box.new w1 67 [.bool fa, .slice E px.length cE])
  have hx2 : Ext w1 (w1.alloc (.cells ([.bool fa, .slice E px.length cE] : List Value).toArray 67)) := Ext.alloc_ (Ext.refl _) _
  have HX2 := Lib.hid (hx1.trans hx2)
  have HR2 := Lib.hid (hrE.below hx2 (Nat.le_refl _))
  clear hx1 hx2 hrE HPX
  generalize w1.alloc (.cells ([.bool fa, .slice E px.length cE] : List Value).toArray 67) = w2 at *
  generalize w1.heap.size = xb at *
  go_upto_region 3 with (first
    | (go_at_call 32; with_reducible refine (HPY.out _ HX2.out).mono ?_; rintro e w3 ⟨F, cF, rfl, hrF, hx3⟩)
    | (refine wpList_store_fresh rfl 67 (.tmp 10) (.tmp 18) rfl ([.bool fb, .slice F py.length cF] : List Value).toArray 67 _ rfl rfl infoC18 rfl (by simp [Value.oneCell']) ?_))
  have hb4 := Box.new w3 67 [.bool fb, .slice F py.length cF]
  have hx4 : Ext w3 (w3.alloc (.cells ([.bool fb, .slice F py.length cF] : List Value).toArray 67)) := Ext.alloc_ (Ext.refl _) _
  have HX4 := Lib.hid (HX2.out.trans (hx3.trans hx4))
  have HRE := Lib.hid (HR2.out.below (hx3.trans hx4) (Nat.le_refl _))
  have HRF := Lib.hid (hrF.below hx4 (Nat.le_refl _))
  have HGX := Lib.hid (HB2.out.ext (hx3.trans hx4)).range
  have HGY := Lib.hid hb4.range
  clear hb4 hx3 hx4 hrF HB2 HX2 HR2 HPY
  generalize w3.alloc (.cells ([.bool fb, .slice F py.length cF] : List Value).toArray 67) = w4 at *
  generalize w3.heap.size = yb at *
  have HTP : Hid (∀ W, Ext w4 W → Calls Tryz.prog 33 #[.agg ([.bool fa, .slice E px.length cE] : List Value).toArray] W fun e w' => e = .returned (.string ⟨(textC fa px).toArray⟩) ∧ Ext W w') := Lib.hid fun W hW => paste_text fa E px.length cE px W (HRE.out.below hW (Nat.le_refl _)) rfl (by omega) HBX.out
  have HTR : Hid (∀ W, Ext w4 W → Calls Tryz.prog 34 #[.agg ([.bool fa, .slice E px.length cE] : List Value).toArray] W fun e w' => e = .returned (.string ⟨(textC fa px).toArray⟩) ∧ Ext W w') := Lib.hid fun W hW => ref18_text fa E px.length cE px W (HRE.out.below hW (Nat.le_refl _)) rfl (by omega) HBX.out
  have HSP : Hid (∀ W, Ext w4 W → Calls Tryz.prog 35 #[.agg ([.bool fa, .slice E px.length cE] : List Value).toArray, .agg ([.bool fb, .slice F py.length cF] : List Value).toArray] W fun e w' => e = .returned (.bool (decide (fa = fb ∧ px = py))) ∧ Ext W w') := Lib.hid fun W hW => paste_same fa fb E F cE cF px py W (HRE.out.below hW (Nat.le_refl _)) (HRF.out.below hW (Nat.le_refl _)) (by omega) (by omega)
  have HSR : Hid (∀ W, Ext w4 W → Calls Tryz.prog 36 #[.agg ([.bool fa, .slice E px.length cE] : List Value).toArray, .agg ([.bool fb, .slice F py.length cF] : List Value).toArray] W fun e w' => e = .returned (.bool (decide (fa = fb ∧ px = py))) ∧ Ext W w') := Lib.hid fun W hW => ref18_same fa fb E F cE cF px py W (HRE.out.below hW (Nat.le_refl _)) (HRF.out.below hW (Nat.le_refl _)) (by omega) (by omega)
  have HSX : Hid (∀ W, Ext w4 W → Calls Tryz.prog 35 #[.agg ([.bool fa, .slice E px.length cE] : List Value).toArray, .agg ([.bool fa, .slice E px.length cE] : List Value).toArray] W fun e w' => e = .returned (.bool true) ∧ Ext W w') := Lib.hid fun W hW => by
    have hh := paste_same fa fa E E cE cE px px W (HRE.out.below hW (Nat.le_refl _)) (HRE.out.below hW (Nat.le_refl _)) (by omega) (by omega)
    rwa [decide_eq_true ⟨rfl, rfl⟩] at hh
  have HLV2 : Hid (∀ W, Ext w4 W → Calls Tryz.prog 19 #[] W fun e w' => e = .returned (.bool true) ∧ Ext W w') := Lib.hid fun W hW => HLV.out W (HX4.out.trans hW)
  clear HBX HBY hnx hny HRE HRF HLV
  generalize textC fa px = tx at *
  generalize decide (fa = fb ∧ px = py) = bb at *
  generalize px.length = lx at *
  generalize py.length = ly at *
  cases bb
  · skip
    refine wp_region_noPanic ?_
    refine wp_region_held_drew (S := fun W => Ext w4 W ∧ W.rangeAt xb 0 [.bool fa, .slice E lx cE] ∧ W.rangeAt yb 0 [.bool fb, .slice F ly cF]) (by kernel_rfl) ?_ (fun hHeld => ?_)
    · exact ⟨Ext.drew_ (Ext.refl _), HGX.out, HGY.out⟩
    refine takeRow_ (cs := [.bool fa, .slice E lx cE]) 0 rfl (by kernel_rfl) (by kernel_rfl) (by kernel_rfl) (fun _ _ _ h => h) hHeld (by rfl) 67 ((.tmp 9)) rfl xb (0) rfl _ (fun _ h => h.2.1) Tryz.underlying67 rfl infoC18 ?_
    try simp only [Act.put, List.setIfInBounds_toArray, List.set_cons_zero, List.set_cons_succ]
    refine takeRow_ (cs := [.bool fa, .slice E lx cE]) 2 rfl (by kernel_rfl) (by kernel_rfl) (by kernel_rfl) (fun _ _ _ h => h) hHeld (by rfl) 67 ((.tmp 9)) rfl xb (0) rfl _ (fun _ h => h.2.1) Tryz.underlying67 rfl infoC18 ?_
    try simp only [Act.put, List.setIfInBounds_toArray, List.set_cons_zero, List.set_cons_succ]
    refine only_ 1 rfl (by kernel_rfl) (fun K1 hK1 => ?_)
    go_simp
    go_at_call 33
    refine (HTP.out _ hHeld.1).mono ?_
    rintro e w20 ⟨rfl, hx20⟩
    refine hK1.out _ _ (⟨hHeld.1.trans hx20, Ext.range_ hx20 hHeld.2.1, Ext.range_ hx20 hHeld.2.2⟩) (fun hHeld => ?_)
    clear hK1
    try simp only [Act.put, List.setIfInBounds_toArray, List.set_cons_zero, List.set_cons_succ]
    refine only_ 3 rfl (by kernel_rfl) (fun K1 hK1 => ?_)
    go_simp
    go_at_call 34
    refine (HTR.out _ hHeld.1).mono ?_
    rintro e w22 ⟨rfl, hx22⟩
    refine hK1.out _ _ (⟨hHeld.1.trans hx22, Ext.range_ hx22 hHeld.2.1, Ext.range_ hx22 hHeld.2.2⟩) (fun hHeld => ?_)
    clear hK1
    try simp only [Act.put, List.setIfInBounds_toArray, List.set_cons_zero, List.set_cons_succ]
    refine take_ 4 (v := ?_) rfl (by kernel_rfl) (by kernel_rfl) (by kernel_rfl) (fun _ _ _ h => h) hHeld (by rfl) ?_ ?_
    rotate_left 1
    · (intro w hSw; (try dsimp only at hSw); go_simp; all_goals with_reducible rfl)
    try simp only [Act.put, List.setIfInBounds_toArray, List.set_cons_zero, List.set_cons_succ]
    refine take_ 5 (v := ?_) rfl (by kernel_rfl) (by kernel_rfl) (by kernel_rfl) (fun _ _ _ h => h) hHeld (by rfl) ?_ ?_
    rotate_left 1
    · (intro w hSw; (try dsimp only at hSw); go_simp; all_goals with_reducible rfl)
    try simp only [Act.put, List.setIfInBounds_toArray, List.set_cons_zero, List.set_cons_succ]
    refine takeRow_ (cs := [.bool fa, .slice E lx cE]) 6 rfl (by kernel_rfl) (by kernel_rfl) (by kernel_rfl) (fun _ _ _ h => h) hHeld (by rfl) 67 ((.tmp 9)) rfl xb (0) rfl _ (fun _ h => h.2.1) Tryz.underlying67 rfl infoC18 ?_
    try simp only [Act.put, List.setIfInBounds_toArray, List.set_cons_zero, List.set_cons_succ]
    refine takeRow_ (cs := [.bool fb, .slice F ly cF]) 7 rfl (by kernel_rfl) (by kernel_rfl) (by kernel_rfl) (fun _ _ _ h => h) hHeld (by rfl) 67 ((.tmp 10)) rfl yb (0) rfl _ (fun _ h => h.2.2) Tryz.underlying67 rfl infoC18 ?_
    try simp only [Act.put, List.setIfInBounds_toArray, List.set_cons_zero, List.set_cons_succ]
    refine takeRow_ (cs := [.bool fa, .slice E lx cE]) 9 rfl (by kernel_rfl) (by kernel_rfl) (by kernel_rfl) (fun _ _ _ h => h) hHeld (by rfl) 67 ((.tmp 9)) rfl xb (0) rfl _ (fun _ h => h.2.1) Tryz.underlying67 rfl infoC18 ?_
    try simp only [Act.put, List.setIfInBounds_toArray, List.set_cons_zero, List.set_cons_succ]
    refine takeRow_ (cs := [.bool fb, .slice F ly cF]) 10 rfl (by kernel_rfl) (by kernel_rfl) (by kernel_rfl) (fun _ _ _ h => h) hHeld (by rfl) 67 ((.tmp 10)) rfl yb (0) rfl _ (fun _ h => h.2.2) Tryz.underlying67 rfl infoC18 ?_
    try simp only [Act.put, List.setIfInBounds_toArray, List.set_cons_zero, List.set_cons_succ]
    refine only_ 8 rfl (by kernel_rfl) (fun K1 hK1 => ?_)
    go_simp
    go_at_call 35
    refine (HSP.out _ hHeld.1).mono ?_
    rintro e w27 ⟨rfl, hx27⟩
    refine hK1.out _ _ (⟨hHeld.1.trans hx27, Ext.range_ hx27 hHeld.2.1, Ext.range_ hx27 hHeld.2.2⟩) (fun hHeld => ?_)
    clear hK1
    try simp only [Act.put, List.setIfInBounds_toArray, List.set_cons_zero, List.set_cons_succ]
    refine only_ 11 rfl (by kernel_rfl) (fun K1 hK1 => ?_)
    go_simp
    go_at_call 36
    refine (HSR.out _ hHeld.1).mono ?_
    rintro e w30 ⟨rfl, hx30⟩
    refine hK1.out _ _ (⟨hHeld.1.trans hx30, Ext.range_ hx30 hHeld.2.1, Ext.range_ hx30 hHeld.2.2⟩) (fun hHeld => ?_)
    clear hK1
    try simp only [Act.put, List.setIfInBounds_toArray, List.set_cons_zero, List.set_cons_succ]
    refine take_ 12 (v := ?_) rfl (by kernel_rfl) (by kernel_rfl) (by kernel_rfl) (fun _ _ _ h => h) hHeld (by rfl) ?_ ?_
    rotate_left 1
    · (intro w hSw; (try dsimp only at hSw); go_simp; all_goals with_reducible rfl)
    try simp only [Act.put, List.setIfInBounds_toArray, List.set_cons_zero, List.set_cons_succ]
    refine take_ 13 (v := ?_) rfl (by kernel_rfl) (by kernel_rfl) (by kernel_rfl) (fun _ _ _ h => h) hHeld (by rfl) ?_ ?_
    rotate_left 1
    · (intro w hSw; (try dsimp only at hSw); go_simp; all_goals with_reducible rfl)
    try simp only [Act.put, List.setIfInBounds_toArray, List.set_cons_zero, List.set_cons_succ]
    refine take_ 14 (v := ?_) rfl (by kernel_rfl) (by kernel_rfl) (by kernel_rfl) (fun _ _ _ h => h) hHeld (by rfl) ?_ ?_
    rotate_left 1
    · (intro w hSw; (try dsimp only at hSw); go_simp; all_goals with_reducible rfl)
    try simp only [Act.put, List.setIfInBounds_toArray, List.set_cons_zero, List.set_cons_succ]
    refine takeRow_ (cs := [.bool fa, .slice E lx cE]) 15 rfl (by kernel_rfl) (by kernel_rfl) (by kernel_rfl) (fun _ _ _ h => h) hHeld (by rfl) 67 ((.tmp 9)) rfl xb (0) rfl _ (fun _ h => h.2.1) Tryz.underlying67 rfl infoC18 ?_
    try simp only [Act.put, List.setIfInBounds_toArray, List.set_cons_zero, List.set_cons_succ]
    refine takeRow_ (cs := [.bool fa, .slice E lx cE]) 16 rfl (by kernel_rfl) (by kernel_rfl) (by kernel_rfl) (fun _ _ _ h => h) hHeld (by rfl) 67 ((.tmp 9)) rfl xb (0) rfl _ (fun _ h => h.2.1) Tryz.underlying67 rfl infoC18 ?_
    try simp only [Act.put, List.setIfInBounds_toArray, List.set_cons_zero, List.set_cons_succ]
    refine only_ 17 rfl (by kernel_rfl) (fun K1 hK1 => ?_)
    go_simp
    go_at_call 35
    refine (HSX.out _ hHeld.1).mono ?_
    rintro e w36 ⟨rfl, hx36⟩
    refine hK1.out _ _ (⟨hHeld.1.trans hx36, Ext.range_ hx36 hHeld.2.1, Ext.range_ hx36 hHeld.2.2⟩) (fun hHeld => ?_)
    clear hK1
    try simp only [Act.put, List.setIfInBounds_toArray, List.set_cons_zero, List.set_cons_succ]
    refine take_ 18 (v := ?_) rfl (by kernel_rfl) (by kernel_rfl) (by kernel_rfl) (fun _ _ _ h => h) hHeld (by rfl) ?_ ?_
    rotate_left 1
    · (intro w hSw; (try dsimp only at hSw); go_simp; all_goals with_reducible rfl)
    try simp only [Act.put, List.setIfInBounds_toArray, List.set_cons_zero, List.set_cons_succ]
    refine take_ 19 (v := ?_) rfl (by kernel_rfl) (by kernel_rfl) (by kernel_rfl) (fun _ _ _ h => h) hHeld (by rfl) ?_ ?_
    rotate_left 1
    · (intro w hSw; (try dsimp only at hSw); go_simp; all_goals with_reducible rfl)
    try simp only [Act.put, List.setIfInBounds_toArray, List.set_cons_zero, List.set_cons_succ]
    refine only_ 20 rfl (by kernel_rfl) (fun K1 hK1 => ?_)
    go_simp
    go_at_call 19
    refine (HLV2.out _ hHeld.1).mono ?_
    rintro e w39 ⟨rfl, hx39⟩
    refine hK1.out _ _ (⟨hHeld.1.trans hx39, Ext.range_ hx39 hHeld.2.1, Ext.range_ hx39 hHeld.2.2⟩) (fun hHeld => ?_)
    clear hK1
    try simp only [Act.put, List.setIfInBounds_toArray, List.set_cons_zero, List.set_cons_succ]
    refine take_ 21 (v := ?_) rfl (by kernel_rfl) (by kernel_rfl) (by kernel_rfl) (fun _ _ _ h => h) hHeld (by rfl) ?_ ?_
    rotate_left 1
    · (intro w hSw; (try dsimp only at hSw); go_simp; all_goals with_reducible rfl)
    try simp only [Act.put, List.setIfInBounds_toArray, List.set_cons_zero, List.set_cons_succ]
    refine take_ 22 (v := ?_) rfl (by kernel_rfl) (by kernel_rfl) (by kernel_rfl) (fun _ _ _ h => h) hHeld (by rfl) ?_ ?_
    rotate_left 1
    · (intro w hSw; (try dsimp only at hSw); go_simp; all_goals with_reducible rfl)
    try simp only [Act.put, List.setIfInBounds_toArray, List.set_cons_zero, List.set_cons_succ]
    refine wpAnyH_done (by kernel_rfl) ?_ _
    refine NoPanic.normal ?_
    have HE := Lib.hid (HX4.out.trans hHeld.1)
    clear hHeld
    go_wp2
    go_ret
    exact ⟨rfl, HE.out⟩
  · skip
    refine wp_region_noPanic ?_
    refine wp_region_held_drew (S := fun W => Ext w4 W ∧ W.rangeAt xb 0 [.bool fa, .slice E lx cE] ∧ W.rangeAt yb 0 [.bool fb, .slice F ly cF]) (by kernel_rfl) ?_ (fun hHeld => ?_)
    · exact ⟨Ext.drew_ (Ext.refl _), HGX.out, HGY.out⟩
    refine takeRow_ (cs := [.bool fa, .slice E lx cE]) 0 rfl (by kernel_rfl) (by kernel_rfl) (by kernel_rfl) (fun _ _ _ h => h) hHeld (by rfl) 67 ((.tmp 9)) rfl xb (0) rfl _ (fun _ h => h.2.1) Tryz.underlying67 rfl infoC18 ?_
    try simp only [Act.put, List.setIfInBounds_toArray, List.set_cons_zero, List.set_cons_succ]
    refine takeRow_ (cs := [.bool fa, .slice E lx cE]) 2 rfl (by kernel_rfl) (by kernel_rfl) (by kernel_rfl) (fun _ _ _ h => h) hHeld (by rfl) 67 ((.tmp 9)) rfl xb (0) rfl _ (fun _ h => h.2.1) Tryz.underlying67 rfl infoC18 ?_
    try simp only [Act.put, List.setIfInBounds_toArray, List.set_cons_zero, List.set_cons_succ]
    refine only_ 1 rfl (by kernel_rfl) (fun K1 hK1 => ?_)
    go_simp
    go_at_call 33
    refine (HTP.out _ hHeld.1).mono ?_
    rintro e w20 ⟨rfl, hx20⟩
    refine hK1.out _ _ (⟨hHeld.1.trans hx20, Ext.range_ hx20 hHeld.2.1, Ext.range_ hx20 hHeld.2.2⟩) (fun hHeld => ?_)
    clear hK1
    try simp only [Act.put, List.setIfInBounds_toArray, List.set_cons_zero, List.set_cons_succ]
    refine only_ 3 rfl (by kernel_rfl) (fun K1 hK1 => ?_)
    go_simp
    go_at_call 34
    refine (HTR.out _ hHeld.1).mono ?_
    rintro e w22 ⟨rfl, hx22⟩
    refine hK1.out _ _ (⟨hHeld.1.trans hx22, Ext.range_ hx22 hHeld.2.1, Ext.range_ hx22 hHeld.2.2⟩) (fun hHeld => ?_)
    clear hK1
    try simp only [Act.put, List.setIfInBounds_toArray, List.set_cons_zero, List.set_cons_succ]
    refine take_ 4 (v := ?_) rfl (by kernel_rfl) (by kernel_rfl) (by kernel_rfl) (fun _ _ _ h => h) hHeld (by rfl) ?_ ?_
    rotate_left 1
    · (intro w hSw; (try dsimp only at hSw); go_simp; all_goals with_reducible rfl)
    try simp only [Act.put, List.setIfInBounds_toArray, List.set_cons_zero, List.set_cons_succ]
    refine take_ 5 (v := ?_) rfl (by kernel_rfl) (by kernel_rfl) (by kernel_rfl) (fun _ _ _ h => h) hHeld (by rfl) ?_ ?_
    rotate_left 1
    · (intro w hSw; (try dsimp only at hSw); go_simp; all_goals with_reducible rfl)
    try simp only [Act.put, List.setIfInBounds_toArray, List.set_cons_zero, List.set_cons_succ]
    refine takeRow_ (cs := [.bool fa, .slice E lx cE]) 6 rfl (by kernel_rfl) (by kernel_rfl) (by kernel_rfl) (fun _ _ _ h => h) hHeld (by rfl) 67 ((.tmp 9)) rfl xb (0) rfl _ (fun _ h => h.2.1) Tryz.underlying67 rfl infoC18 ?_
    try simp only [Act.put, List.setIfInBounds_toArray, List.set_cons_zero, List.set_cons_succ]
    refine takeRow_ (cs := [.bool fb, .slice F ly cF]) 7 rfl (by kernel_rfl) (by kernel_rfl) (by kernel_rfl) (fun _ _ _ h => h) hHeld (by rfl) 67 ((.tmp 10)) rfl yb (0) rfl _ (fun _ h => h.2.2) Tryz.underlying67 rfl infoC18 ?_
    try simp only [Act.put, List.setIfInBounds_toArray, List.set_cons_zero, List.set_cons_succ]
    refine takeRow_ (cs := [.bool fa, .slice E lx cE]) 9 rfl (by kernel_rfl) (by kernel_rfl) (by kernel_rfl) (fun _ _ _ h => h) hHeld (by rfl) 67 ((.tmp 9)) rfl xb (0) rfl _ (fun _ h => h.2.1) Tryz.underlying67 rfl infoC18 ?_
    try simp only [Act.put, List.setIfInBounds_toArray, List.set_cons_zero, List.set_cons_succ]
    refine takeRow_ (cs := [.bool fb, .slice F ly cF]) 10 rfl (by kernel_rfl) (by kernel_rfl) (by kernel_rfl) (fun _ _ _ h => h) hHeld (by rfl) 67 ((.tmp 10)) rfl yb (0) rfl _ (fun _ h => h.2.2) Tryz.underlying67 rfl infoC18 ?_
    try simp only [Act.put, List.setIfInBounds_toArray, List.set_cons_zero, List.set_cons_succ]
    refine only_ 8 rfl (by kernel_rfl) (fun K1 hK1 => ?_)
    go_simp
    go_at_call 35
    refine (HSP.out _ hHeld.1).mono ?_
    rintro e w27 ⟨rfl, hx27⟩
    refine hK1.out _ _ (⟨hHeld.1.trans hx27, Ext.range_ hx27 hHeld.2.1, Ext.range_ hx27 hHeld.2.2⟩) (fun hHeld => ?_)
    clear hK1
    try simp only [Act.put, List.setIfInBounds_toArray, List.set_cons_zero, List.set_cons_succ]
    refine only_ 11 rfl (by kernel_rfl) (fun K1 hK1 => ?_)
    go_simp
    go_at_call 36
    refine (HSR.out _ hHeld.1).mono ?_
    rintro e w30 ⟨rfl, hx30⟩
    refine hK1.out _ _ (⟨hHeld.1.trans hx30, Ext.range_ hx30 hHeld.2.1, Ext.range_ hx30 hHeld.2.2⟩) (fun hHeld => ?_)
    clear hK1
    try simp only [Act.put, List.setIfInBounds_toArray, List.set_cons_zero, List.set_cons_succ]
    refine take_ 12 (v := ?_) rfl (by kernel_rfl) (by kernel_rfl) (by kernel_rfl) (fun _ _ _ h => h) hHeld (by rfl) ?_ ?_
    rotate_left 1
    · (intro w hSw; (try dsimp only at hSw); go_simp; all_goals with_reducible rfl)
    try simp only [Act.put, List.setIfInBounds_toArray, List.set_cons_zero, List.set_cons_succ]
    refine take_ 13 (v := ?_) rfl (by kernel_rfl) (by kernel_rfl) (by kernel_rfl) (fun _ _ _ h => h) hHeld (by rfl) ?_ ?_
    rotate_left 1
    · (intro w hSw; (try dsimp only at hSw); go_simp; all_goals with_reducible rfl)
    try simp only [Act.put, List.setIfInBounds_toArray, List.set_cons_zero, List.set_cons_succ]
    refine take_ 14 (v := ?_) rfl (by kernel_rfl) (by kernel_rfl) (by kernel_rfl) (fun _ _ _ h => h) hHeld (by rfl) ?_ ?_
    rotate_left 1
    · (intro w hSw; (try dsimp only at hSw); go_simp; all_goals with_reducible rfl)
    try simp only [Act.put, List.setIfInBounds_toArray, List.set_cons_zero, List.set_cons_succ]
    refine takeRow_ (cs := [.bool fa, .slice E lx cE]) 15 rfl (by kernel_rfl) (by kernel_rfl) (by kernel_rfl) (fun _ _ _ h => h) hHeld (by rfl) 67 ((.tmp 9)) rfl xb (0) rfl _ (fun _ h => h.2.1) Tryz.underlying67 rfl infoC18 ?_
    try simp only [Act.put, List.setIfInBounds_toArray, List.set_cons_zero, List.set_cons_succ]
    refine takeRow_ (cs := [.bool fa, .slice E lx cE]) 16 rfl (by kernel_rfl) (by kernel_rfl) (by kernel_rfl) (fun _ _ _ h => h) hHeld (by rfl) 67 ((.tmp 9)) rfl xb (0) rfl _ (fun _ h => h.2.1) Tryz.underlying67 rfl infoC18 ?_
    try simp only [Act.put, List.setIfInBounds_toArray, List.set_cons_zero, List.set_cons_succ]
    refine only_ 17 rfl (by kernel_rfl) (fun K1 hK1 => ?_)
    go_simp
    go_at_call 35
    refine (HSX.out _ hHeld.1).mono ?_
    rintro e w36 ⟨rfl, hx36⟩
    refine hK1.out _ _ (⟨hHeld.1.trans hx36, Ext.range_ hx36 hHeld.2.1, Ext.range_ hx36 hHeld.2.2⟩) (fun hHeld => ?_)
    clear hK1
    try simp only [Act.put, List.setIfInBounds_toArray, List.set_cons_zero, List.set_cons_succ]
    refine take_ 18 (v := ?_) rfl (by kernel_rfl) (by kernel_rfl) (by kernel_rfl) (fun _ _ _ h => h) hHeld (by rfl) ?_ ?_
    rotate_left 1
    · (intro w hSw; (try dsimp only at hSw); go_simp; all_goals with_reducible rfl)
    try simp only [Act.put, List.setIfInBounds_toArray, List.set_cons_zero, List.set_cons_succ]
    refine take_ 19 (v := ?_) rfl (by kernel_rfl) (by kernel_rfl) (by kernel_rfl) (fun _ _ _ h => h) hHeld (by rfl) ?_ ?_
    rotate_left 1
    · (intro w hSw; (try dsimp only at hSw); go_simp; all_goals with_reducible rfl)
    try simp only [Act.put, List.setIfInBounds_toArray, List.set_cons_zero, List.set_cons_succ]
    refine only_ 20 rfl (by kernel_rfl) (fun K1 hK1 => ?_)
    go_simp
    go_at_call 19
    refine (HLV2.out _ hHeld.1).mono ?_
    rintro e w39 ⟨rfl, hx39⟩
    refine hK1.out _ _ (⟨hHeld.1.trans hx39, Ext.range_ hx39 hHeld.2.1, Ext.range_ hx39 hHeld.2.2⟩) (fun hHeld => ?_)
    clear hK1
    try simp only [Act.put, List.setIfInBounds_toArray, List.set_cons_zero, List.set_cons_succ]
    refine take_ 21 (v := ?_) rfl (by kernel_rfl) (by kernel_rfl) (by kernel_rfl) (fun _ _ _ h => h) hHeld (by rfl) ?_ ?_
    rotate_left 1
    · (intro w hSw; (try dsimp only at hSw); go_simp; all_goals with_reducible rfl)
    try simp only [Act.put, List.setIfInBounds_toArray, List.set_cons_zero, List.set_cons_succ]
    refine take_ 22 (v := ?_) rfl (by kernel_rfl) (by kernel_rfl) (by kernel_rfl) (fun _ _ _ h => h) hHeld (by rfl) ?_ ?_
    rotate_left 1
    · (intro w hSw; (try dsimp only at hSw); go_simp; all_goals with_reducible rfl)
    try simp only [Act.put, List.setIfInBounds_toArray, List.set_cons_zero, List.set_cons_succ]
    refine wpAnyH_done (by kernel_rfl) ?_ _
    refine NoPanic.normal ?_
    have HE := Lib.hid (HX4.out.trans hHeld.1)
    clear hHeld
    go_wp2
    go_ret
    exact ⟨rfl, HE.out⟩
end Go.Proofs.YtaobgbhgckndkaaGreatDoor.Loc
