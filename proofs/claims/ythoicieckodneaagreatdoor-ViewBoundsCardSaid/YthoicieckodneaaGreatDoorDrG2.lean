/- Walk: a draft made such as may be, its rows new. (Printed out of DrW2.) -/
import Derived.Test.YthoicieckodneaaGreatDoorVwW1
namespace Go.Proofs.YthoicieckodneaaGreatDoor.Loc
open Go.RowKit Utf All Small Strs Build EncC Pat Cls Dec Go.Proofs.YthoicieckodneaaGreatDoor.Sys
set_option linter.unusedVariables false
set_option linter.unusedSimpArgs false

set_option maxHeartbeats 4000000 in
set_option maxRecDepth 100000 in
theorem ref14_goodF (A B : Option Addr) (c e0 : Nat) (d : Dr) (m n : Nat) (w : World) (hd : DrR w A B d) (hi : DrI d) (hm : m ≤ 100) (hn : n ≤ 100) :
    Calls Tryz.prog 15 #[.agg (drV A c B e0 d).toArray, .int .i64 (m : Int), .int .i64 (n : Int)] w fun e w' => ∃ A' B' c' e', e = .returned (.agg (drV A' c' B' e' (goodD d m n)).toArray) ∧ DrR w' A' B' (goodD d m n) ∧ Okc A' c' ∧ Okc B' e' ∧ FrA w.heap.size A' ∧ FrA w.heap.size B' ∧ Ext w w' := by
  have b1 := (Box.new w 26 (drV A c B e0 d)).alloc (.cells zeroD.toArray 26)
  have c1 := Box.new (w.alloc (.cells (drV A c B e0 d).toArray 26)) 26 zeroD
  have hx1 : Ext w ((w.alloc (.cells (drV A c B e0 d).toArray 26)).alloc (.cells zeroD.toArray 26)) := Ext.alloc_ (Ext.alloc_ (Ext.refl w) _) _
  have hs1 : (w.alloc (.cells (drV A c B e0 d).toArray 26)).heap.size = w.heap.size + 1 := by simp
  rw [hs1] at c1
  clear hs1
  obtain ⟨neg, xs, sep, ys⟩ := d
  have HG : Hid (goodD ⟨neg, xs, sep, ys⟩ m n = ⟨neg, goodL xs m, sep, if sep then goodL ys n else []⟩) := Lib.hid rfl
  have HG1 : Hid (∀ W, Ext w W → Calls Tryz.prog 49 #[.slice A xs.length c, .int .i64 (m : Int)] W fun e w' => ∃ E c', e = .returned (.slice E (goodL xs m).length c') ∧ Row w' E ((goodL xs m).map (Value.int .i64)) ∧ Okc E c' ∧ FrA w.heap.size E ∧ Ext W w') := Lib.hid fun W hW =>
    (ref05_good A xs.length c xs m W (hd.int.below hW (Nat.le_refl _)) rfl hm hi.int).mono fun e w' ⟨E, c', h1, h2⟩ => ⟨E, c', h1, h2.row, Acc.okc h2, fun x hx => Nat.le_trans hW.size (h2.own.lt x.block (by rw [hx]; rfl)).1, h2.ext⟩
  have HG2 : Hid (∀ W, Ext w W → Calls Tryz.prog 49 #[.slice B ys.length e0, .int .i64 (n : Int)] W fun e w' => ∃ E c', e = .returned (.slice E (goodL ys n).length c') ∧ Row w' E ((goodL ys n).map (Value.int .i64)) ∧ Okc E c' ∧ FrA w.heap.size E ∧ Ext W w') := Lib.hid fun W hW =>
    (ref05_good B ys.length e0 ys n W (hd.frac.below hW (Nat.le_refl _)) rfl hn hi.frac).mono fun e w' ⟨E, c', h1, h2⟩ => ⟨E, c', h1, h2.row, Acc.okc h2, fun x hx => Nat.le_trans hW.size (h2.own.lt x.block (by rw [hx]; rfl)).1, h2.ext⟩
  have HB1 := Lib.hid b1
  have HC1 := Lib.hid c1
  have HX1 := Lib.hid hx1
  have k0 := b1.cell (j := 0) (v := .bool neg) rfl
  have k1 := b1.cell (j := 1) (v := .slice A xs.length c) rfl
  have k2 := b1.cell (j := 2) (v := .bool sep) rfl
  clear b1 c1 hx1 hd hi
  go_enter Tryz.func15, Tryz.ntmps15
  go_upto_region 1 with fail
  change Code.wp _ _ _ _ ((w.alloc (.cells (drV A c B e0 ⟨neg, xs, sep, ys⟩).toArray 26)).alloc (.cells zeroD.toArray 26))
  generalize (w.alloc (.cells (drV A c B e0 ⟨neg, xs, sep, ys⟩).toArray 26)).alloc (.cells zeroD.toArray 26) = w1 at *
  generalize goodL xs m = X at *
  generalize goodL ys n = Y at *
  go_cut [7] (fun v wx => ∃ p8 E c', v = .pointer (some ⟨p8, 0, none⟩) ∧ Box wx p8 26 [.bool neg, .slice E X.length c', .bool sep, .slice none 0 0] ∧ Row wx E (X.map (Value.int .i64)) ∧ Okc E c' ∧ FrA w.heap.size E ∧ Ext w1 wx ∧ w1.heap.size ≤ p8)
  case first =>
    go_region_held3 (fun W => Ext w1 W ∧ W.cell? ⟨w.heap.size, 0, none⟩ = some (.bool neg) ∧ W.cell? ⟨w.heap.size, 1, none⟩ = some (.slice A xs.length c) ∧ W.cell? ⟨w.heap.size, 2, none⟩ = some (.bool sep))
      ((refine (fun h => ⟨h, Ext.cell_ h k0, Ext.cell_ h k1, Ext.cell_ h k2⟩) ?_; first
        | with_reducible assumption
        | with_reducible exact Ext.drew_ (Ext.refl _)
        | with_reducible exact Ext.drew_ (Ext.alloc_ (Ext.refl _) _)
        | with_reducible exact Ext.alloc_ (by assumption) _
        | exact Ext.setCell_ (Ext.setCell_ (Ext.setCell_ (Ext.setCell_ hE4 hsz _ _) hsz _ _) hsz _ _) hsz _ _))
      (first
        | (go_at_call 49; with_reducible refine (HG1.out w1.drew (Ext.drew_ HX1.out)).mono ?_; rintro e w4 ⟨E, c', rfl, hrE, hoE, hfE, hx4⟩; have hE4 := (Ext.drew_ (Ext.refl w1)).trans hx4)
        | (go_at_call 49; with_reducible refine (HG1.out (w1.alloc (Obj.cells #[.bool false, .slice none 0 0, .bool false, .slice none 0 0] 26)).drew (Ext.drew_ (Ext.alloc_ HX1.out _))).mono ?_; rintro e w4 ⟨E, c', rfl, hrE, hoE, hfE, hx4⟩; have hE4 := (Ext.drew_ (Ext.alloc_ (Ext.refl w1) (Obj.cells #[.bool false, .slice none 0 0, .bool false, .slice none 0 0] 26))).trans hx4; have hz : Box w4 w1.heap.size 26 [.bool false, .slice none 0 0, .bool false, .slice none 0 0] := Box.ext (Box.drew (Box.new w1 26 [.bool false, .slice none 0 0, .bool false, .slice none 0 0])) hx4; obtain ⟨z0, z1, z2, z3, f0, f1, f2, f3⟩ := box4 hz; have hsz : w1.heap.size ≤ w1.heap.size := Nat.le_refl _))
    all_goals go_wp2_with fail
    all_goals go_meet
    all_goals first
      | exact ⟨_, E, c', rfl, Box.new w4 26 [.bool neg, .slice E X.length c', .bool sep, .slice none 0 0], hrE.below (Ext.alloc_ (Ext.refl _) _) (Nat.le_refl _), hoE, hfE, Ext.alloc_ hE4 _, hE4.size⟩
      | exact ⟨_, E, c', rfl, (((hz.setCell 0 (.bool neg)).setCell 1 (.slice E X.length c')).setCell 2 (.bool sep)).setCell 3 (.slice none 0 0), ints_set4 hz hrE, hoE, hfE, Ext.setCell_ (Ext.setCell_ (Ext.setCell_ (Ext.setCell_ hE4 hsz _ _) hsz _ _) hsz _ _) hsz _ _, hsz⟩
  case rest =>
    obtain ⟨p8, E, c', rfl, hb8, hrE, hoE, hfE, hx8, hp8⟩ := hcut
    have HFE := Lib.hid hfE
    have HC8 := Lib.hid (HC1.out.ext hx8)
    have HX8 := Lib.hid (HX1.out.trans hx8)
    have HE8 := Lib.hid hrE
    have HO8 := Lib.hid hoE
    have HB8 := Lib.hid hb8
    have hle : w.heap.size ≤ w.heap.size + 1 := Nat.le_succ _
    have k2 := Ext.cell_ hx8 k2
    have k3 := (HB1.out.ext hx8).cell (j := 3) (v := .slice B ys.length e0) rfl
    have HP8 : Hid (w.heap.size ≤ p8) := Lib.hid (by have := HX1.out.size; omega)
    have HQ8 : Hid (w.heap.size + 1 < p8) := Lib.hid (by have := HC1.out.lt; omega)
    clear hx8 hrE hoE hfE hp8 HG1
    cases sep
    · have HGX : Hid (goodD ⟨neg, xs, false, ys⟩ m n = ⟨neg, X, false, []⟩) := Lib.hid (by rw [HG.out]; rfl)
      have HR8 := Lib.hid hb8.range
      clear hb8
      go_wp2_with (first
        | (refine wpList_load_mid rfl 26 (.tmp 7) rfl p8 0 rfl [.bool neg, .slice E X.length c', .bool false, .slice none 0 0] _ HR8.out Tryz.underlying26 rfl infoD14 ?_)
        | (refine wpList_store_row rfl 26 (.tmp 6) (.tmp 24) rfl (w.heap.size + 1) ([.bool neg, .slice E X.length c', .bool false, .slice none 0 0] : List Value).toArray rfl rfl _ _ HC8.out infoD14 rfl (by simp [Value.oneCell']) ?_))
      have hb9 := HC8.out.set ([.bool neg, .slice E X.length c', .bool false, .slice none 0 0] : List Value).toArray
      refine bodyPost_ret (v := .agg ([.bool neg, .slice E X.length c', .bool false, .slice none 0 0] : List Value).toArray) (results_cell_row rfl _ _ (w.heap.size + 1) _ _ _ _ rfl hb9 Tryz.underlying26 rfl infoD14) rfl ⟨E, none, c', 0, by rw [HGX.out]; rfl, ?_, HO8.out, ⟨Nat.zero_le _, fun _ => rfl⟩, HFE.out, fun _ h => (by cases h), Ext.setRow HX8.out hle _⟩
      rw [HGX.out]
      exact ⟨ints_setRow HC8.out HE8.out (by simp [isInt, zeroD]) _, .inl rfl⟩
    · have HGX : Hid (goodD ⟨neg, xs, true, ys⟩ m n = ⟨neg, X, true, Y⟩) := Lib.hid (by rw [HG.out]; rfl)
      clear hb8
      go_upto_region 4 with (go_at_call 49; with_reducible refine (HG2.out _ HX8.out).mono ?_; rintro e w9 ⟨F, cF, rfl, hrF, hoF, hfF, hx9⟩; have hb9 := HB8.out.ext hx9; have y3 := hb9.cell (j := 3) (v := .slice none 0 0) rfl; have g3 := hb9.frozen 3)
      have hb10 := hb9.setCell 3 (.slice F Y.length cF)
      have HR10 : Hid ((w9.setCell ⟨p8, 3, none⟩ (.slice F Y.length cF)).rangeAt p8 0 [.bool neg, .slice E X.length c', .bool true, .slice F Y.length cF]) := Lib.hid hb10.range
      have HE10 := Lib.hid (ints_setCell hb9 (HE8.out.below hx9 (Nat.le_refl _)) (by simp [isInt]) 3 (.slice F Y.length cF))
      have HF10 := Lib.hid (ints_setCell hb9 hrF (by simp [isInt]) 3 (.slice F Y.length cF))
      have hne : w.heap.size + 1 ≠ p8 := by have := HQ8.out; omega
      have HC10 := Lib.hid ((HC8.out.ext hx9).setCell1 p8 (.slice F Y.length cF) (fun e => hne e.symm) 3)
      have HX10 := Lib.hid (Ext.setCell_ (HX8.out.trans hx9) HP8.out 3 (.slice F Y.length cF))
      clear hb9 hb10 y3 g3 hx9 hrF
      generalize w9.setCell ⟨p8, 3, none⟩ (.slice F Y.length cF) = w10 at *
      go_wp2_with (first
        | (refine wpList_load_mid rfl 26 (.tmp 7) rfl p8 0 rfl [.bool neg, .slice E X.length c', .bool true, .slice F Y.length cF] _ HR10.out Tryz.underlying26 rfl infoD14 ?_)
        | (refine wpList_store_row rfl 26 (.tmp 6) (.tmp 24) rfl (w.heap.size + 1) ([.bool neg, .slice E X.length c', .bool true, .slice F Y.length cF] : List Value).toArray rfl rfl _ _ HC10.out infoD14 rfl (by simp [Value.oneCell']) ?_))
      have hb11 := HC10.out.set ([.bool neg, .slice E X.length c', .bool true, .slice F Y.length cF] : List Value).toArray
      refine bodyPost_ret (v := .agg ([.bool neg, .slice E X.length c', .bool true, .slice F Y.length cF] : List Value).toArray) (results_cell_row rfl _ _ (w.heap.size + 1) _ _ _ _ rfl hb11 Tryz.underlying26 rfl infoD14) rfl ⟨E, F, c', cF, by rw [HGX.out]; rfl, ?_, HO8.out, hoF, HFE.out, hfF, Ext.setRow HX10.out hle _⟩
      rw [HGX.out]
      exact ⟨ints_setRow HC10.out HE10.out (by simp [isInt, zeroD]) _, ints_setRow HC10.out HF10.out (by simp [isInt, zeroD]) _⟩
end Go.Proofs.YthoicieckodneaaGreatDoor.Loc
