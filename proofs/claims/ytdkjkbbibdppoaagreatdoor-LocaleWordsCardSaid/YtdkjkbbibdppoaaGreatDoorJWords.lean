/- Joined by wip/join.py: LWords LOpen. -/
import Derived.Test.YtdkjkbbibdppoaaGreatDoorJLocC
import Derived.Test.YtdkjkbbibdppoaaGreatDoorJLocB
import Derived.Deep.RegionHeld3
import Derived.Deep.RegionWith
import Derived.Lib.LaidU8T
import Derived.WideShapes
import Derived.RowKit
import Derived.ChangeSlices
import Derived.SliceStrings
/- The law LocaleWords: which texts are words, and symbols, is told as the document says. -/
namespace Go.Proofs.YtdkjkbbibdppoaaGreatDoor.Loc
open Go.RowKit Utf All Small Strs Build EncC Pat Cls Dec Go.Proofs.YtdkjkbbibdppoaaGreatDoor.Sys
set_option linter.unusedVariables false
set_option linter.unusedSimpArgs false

set_option maxHeartbeats 4000000 in
set_option maxRecDepth 100000 in
theorem join_ref (A : Option Addr) (c n : Nat) (xs : List Int) (w : World) (hn : xs.length = n) (hr : Row w A (xs.map (Value.int .i64))) (hl : n ≤ 1000) :
    Calls Tryz.prog 26 #[.slice A n c] w fun e w' => ∃ t : List UInt8, e = .returned (.string ⟨t.toArray⟩) ∧ t.length ≤ 4 * n ∧ Ext w w' := by
  have HN := Lib.hid hn
  go_enter Tryz.func26, Tryz.ntmps26
  go_wp2
  go_loopw [3, 4] (fun v i wr => ∃ (k : Nat) (t : List UInt8), k ≤ n ∧ i = .int .i64 k ∧ v = .string ⟨t.toArray⟩ ∧ t.length ≤ 4 * k ∧ Ext w wr) (fun _ i _ => n - (intOf i).toNat)
  case atStart => exact ⟨0, [], Nat.zero_le _, rfl, rfl, by simp, Ext.refl _⟩
  case round =>
    obtain ⟨k, t, hk, rfl, rfl, hle, hx⟩ := hrel
    by_cases hlt : k < n
    · have hkx : k < xs.length := by have := HN.out; omega
      obtain ⟨b, off, rfl, hc⟩ := row_int (hr.below hx (Nat.le_refl _)) hkx
      generalize xs[k] = x at *
      have HX := Lib.hid hx
      clear hx
      go_wp2_with fail
      refine (ref_encode x _).mono ?_
      rintro e w2 ⟨rfl, hx2⟩
      have he4 := Pat.encB_le x
      have HX2 := Lib.hid (HX.out.trans hx2)
      clear hx2
      by_cases h0 : encB x = []
      · have he : (encB x).isEmpty = true := by rw [h0]; rfl
        have q3 : (9223372036854775807 < t.length + (encB 65533).length) = False := eq_false (by have := Pat.encB_le 65533; omega)
        have h3 := Pat.encB_le 65533
        have hap := app_mk t (encB 65533)
        generalize encB x = ex at *
        go_wp2_with fail
        refine (ref_encode 65533 _).mono ?_
        rintro e w3 ⟨rfl, hx3⟩
        generalize encB 65533 = sp at *
        go_wp2_with fail
        go_roundw
        case rel => exact ⟨k + 1, t ++ sp, by omega, by go_num, by first | rfl | rw [hap], by simp; omega, HX2.out.trans hx3⟩
        case measure => simp [intOf]; omega
      · have he : (encB x).isEmpty = false := by
          cases hh : encB x with
          | nil => exact absurd hh h0
          | cons _ _ => rfl
        have q3 : (9223372036854775807 < t.length + (encB x).length) = False := eq_false (by omega)
        have hap := app_mk t (encB x)
        generalize encB x = ex at *
        go_wp2_with fail
        go_roundw
        case rel => exact ⟨k + 1, t ++ ex, by omega, by go_num, by first | rfl | rw [hap], by simp; omega, HX2.out⟩
        case measure => simp [intOf]; omega
    · have e : k = n := by omega
      subst e
      go_wp2
      go_ret
      exact ⟨t, rfl, hle, hx⟩

theorem two_at (a b : List UInt8) {i : Nat} (h : i < 2) : ∃ t, ([Value.string ⟨a.toArray⟩, .string ⟨b.toArray⟩] : List Value)[i]? = some (.string ⟨t.toArray⟩) ∧ (t = a ∨ t = b) := by
  match i, h with
  | 0, _ => exact ⟨a, rfl, .inl rfl⟩
  | 1, _ => exact ⟨b, rfl, .inr rfl⟩
set_option maxHeartbeats 8000000 in
set_option maxRecDepth 1000000 in
theorem law_LocaleWords (s : List UInt8) (A : Option Addr) (cA : Nat) (xs : List Int) (w : World) (hs : s.length ≤ maxLen) (hr : Row w A (xs.map (Value.int .i64))) (hx : ∀ x ∈ xs, i64 x) (hlx : xs.length ≤ maxLen) (hT : Tabs w) :
    Calls Tryz.prog 5 #[.string ⟨s.toArray⟩, .slice A xs.length cA] w fun e w' => e = .returned (.bool true) ∧ Below w.heap.size w w' := by
  have HXS := Lib.hid hx
  clear hx
  unfold maxLen at hlx
  go_enter Tryz.func5, Tryz.ntmps5
  go_wp2
  go_loopw [5, 6, 7] (fun o i _ wr => ∃ (k : Nat) (E : Option Addr) (d : Nat) (ys : List Int), k ≤ xs.length ∧ k ≤ 9 ∧ i = .int .i64 k ∧ ys.length = k ∧ o = .slice E k d ∧ Acc 3 1 w wr E d k (ys.map (Value.int .i64))) (fun _ i _ _ => 9 - (intOf i).toNat)
  case atStart => exact ⟨0, none, 0, [], Nat.zero_le _, by omega, rfl, rfl, rfl, Acc.start _ _ _⟩
  case round =>
    obtain ⟨k, E, d, ys, hkl, hk9, rfl, hys, rfl, hacc⟩ := hrel
    by_cases hlt : k < xs.length ∧ k < 9
    · obtain ⟨hlt, hlt9⟩ := hlt
      obtain ⟨b, off, rfl, hc⟩ := row_int (hr.below hacc.ext (Nat.le_refl _)) hlt
      obtain ⟨hx1, hx2⟩ := HXS.out _ (List.getElem_mem hlt)
      generalize xs[k] = x at *
      have hg1 : (k : Int) < (xs.length : Int) := by omega
      have hg2 : (k : Int) < 9 := by omega
      go_wp2_with fail
      refine (around x 60 wr hx1 hx2 (by decide) (by decide)).mono ?_; rintro e w' ⟨rfl, rfl⟩
      have hb := aroundF_bd x 60 (by decide)
      generalize aroundF x 60 = y at *
      by_cases h25 : y > 25
      · have v1 : IntKind.i64.wrap (y + 703) = y + 703 := by rw [IntKind.wrap_i64]; omega
        have v2 : IntKind.i64.wrap (65 + (y + 703)) = 65 + (y + 703) := by rw [IntKind.wrap_i64]; omega
        go_wp2_with (at_builtin; refine wp_app ei_int rfl (.tmp 30) (.tmp 33) rfl w _ E d k _ rfl hacc [.int .i64 (65 + (y + 703))] 1 1 rfl rfl (by simp [Value.oneCell']) (by omega) (by unfold maxLen; omega) ?_; intro A1 c1 w5 hA5 _ _)
        exact ⟨⟨k + 1, A1, c1, ys ++ [65 + (y + 703)], by omega, by omega, by go_num, by simp; omega, rfl, by rw [List.map_append]; exact hA5⟩, by simp [intOf]; omega⟩
      · have v2 : IntKind.i64.wrap (65 + y) = 65 + y := by rw [IntKind.wrap_i64]; omega
        go_wp2_with (at_builtin; refine wp_app ei_int rfl (.tmp 30) (.tmp 33) rfl w _ E d k _ rfl hacc [.int .i64 (65 + y)] 1 1 rfl rfl (by simp [Value.oneCell']) (by omega) (by unfold maxLen; omega) ?_; intro A1 c1 w5 hA5 _ _)
        exact ⟨⟨k + 1, A1, c1, ys ++ [65 + y], by omega, by omega, by go_num, by simp; omega, rfl, by rw [List.map_append]; exact hA5⟩, by simp [intOf]; omega⟩
    · have hend : ¬ ((k : Int) < (xs.length : Int)) ∨ ¬ ((k : Int) < 9) := by omega
      have hro := hacc.row
      have HXR : Hid (Ext w wr) := Lib.hid hacc.ext
      have HTR := Lib.hid (hT.ext hacc.ext)
      have HF : Hid (∀ W, Calls Tryz.prog 25 #[.string ⟨s.toArray⟩, .int .i64 20] W fun e w' => e = .returned (.string ⟨(s.take 20).toArray⟩) ∧ W = w') := Lib.hid fun W => few_l s 20 W hs (by decide)
      have HJ := Lib.hid (join_ref E d k ys wr hys hro (by omega))
      have hs20 : (s.take 20).length ≤ 20 := by simp; omega
      clear hacc hro hT HXS hlt hs hr
      generalize s.take 20 = a at *
      rcases (by omega : ((k : Int) < (xs.length : Int) ∧ ¬ ((k : Int) < 9)) ∨ ¬ ((k : Int) < (xs.length : Int))) with ⟨h1, h2⟩ | h1
      all_goals
        clear hend
        go_wp2_with (first
          | (go_at_call 25; with_reducible refine (HF.out _).mono ?_; rintro e w2 ⟨rfl, rfl⟩)
          | (go_at_call 26; with_reducible refine HJ.out.mono ?_; rintro e w3 ⟨t, rfl, ht4, hx3⟩))
        have hb4 := Box.new w3 9 [.string ⟨a.toArray⟩, .string ⟨t.toArray⟩]
        have hx4 : Ext w3 (w3.alloc (.cells ([.string ⟨a.toArray⟩, .string ⟨t.toArray⟩] : List Value).toArray 9)) := Ext.alloc_ (Ext.refl _) _
        change Code.wp _ _ _ _ (w3.alloc (.cells ([.string ⟨a.toArray⟩, .string ⟨t.toArray⟩] : List Value).toArray 9))
        generalize w3.alloc (.cells ([.string ⟨a.toArray⟩, .string ⟨t.toArray⟩] : List Value).toArray 9) = w4 at *
        have HX4 := Lib.hid ((HXR.out.trans hx3).trans hx4)
        have HT4 := Lib.hid ((HTR.out.ext hx3).ext hx4)
        have HB4 := Lib.hid hb4
        have hta : a.length ≤ 1000000 ∧ t.length ≤ 1000000 := ⟨by omega, by omega⟩
        clear hb4 hx4 hx3 HXR HTR HF HJ hs20 ht4
        generalize w3.heap.size = bs at *
        go_loopw [9] (fun i wr => ∃ k2 : Nat, k2 ≤ 2 ∧ i = .int .i64 k2 ∧ Ext w4 wr) (fun i _ => 2 - (intOf i).toNat)
        case atStart => exact ⟨0, by omega, rfl, Ext.refl _⟩
        case round =>
          rename_i w6
          obtain ⟨k2, hk2, rfl, hxr⟩ := hrel
          by_cases hl2 : k2 < 2
          · obtain ⟨u, hu, hor⟩ := two_at a t hl2
            have hul : u.length ≤ 1000000 := by
              rcases hor with rfl | rfl
              · exact hta.1
              · exact hta.2
            have hc := (HB4.out.ext hxr).cell hu
            have hd : (⟨u.toArray⟩ : ByteArray).data.toList = u := by simp
            have HWR : Hid (∀ W, Calls Tryz.prog 27 #[.string ⟨u.toArray⟩] W fun e w' => e = .returned (.bool (wordL u)) ∧ Ext W w') := Lib.hid fun W => by
              have := word_ref ⟨u.toArray⟩ W (by rw [sizeL]; omega)
              rwa [hd] at this
            have HSR : Hid (∀ W, Calls Tryz.prog 30 #[.string ⟨u.toArray⟩] W fun e w' => e = .returned (.bool (symL u)) ∧ Ext W w') := Lib.hid fun W => by
              have := symbol_ref ⟨u.toArray⟩ W (by rw [sizeL]; omega)
              rwa [hd] at this
            have HW : Hid (∀ W, Ext w4 W → Calls Tryz.prog 28 #[.string ⟨u.toArray⟩] W fun e w' => e = .returned (.bool (wordL u)) ∧ Ext W w') := Lib.hid fun W hW => by
              have := word_ ⟨u.toArray⟩ W (by rw [sizeL]; omega) (HT4.out.ext hW)
              rwa [hd] at this
            have HS : Hid (∀ W, Ext w4 W → Calls Tryz.prog 29 #[.string ⟨u.toArray⟩] W fun e w' => e = .returned (.bool (symL u)) ∧ Ext W w') := Lib.hid fun W hW => by
              have := symbol_ ⟨u.toArray⟩ W (by rw [sizeL]; omega) (HT4.out.ext hW)
              rwa [hd] at this
            have HSP : Hid (∀ W, Calls Tryz.prog 31 #[.string ⟨u.toArray⟩] W fun e w' => ∃ FE fc, e = .returned (.slice FE (splitS u).length fc) ∧ Ext W w') := Lib.hid fun W => by
              have := split_ref ⟨u.toArray⟩ W (by rw [sizeL]; omega)
              rw [hd] at this
              exact this.mono fun e w' ⟨FE, fc, h1, _, h3⟩ => ⟨FE, fc, h1, h3⟩
            have HSY : Hid (symL u = (wordL u && decide ((splitS u).length = 1))) := Lib.hid rfl
            clear hd hu hor hul
            generalize wordL u = wd at *
            generalize symL u = sy at *
            generalize (splitS u).length = m at *
            generalize (⟨u.toArray⟩ : ByteArray) = us at *
            have i1 : (k2 : Int) < 2 := by omega
            go_wp2_with (go_at_call 27; with_reducible refine (HWR.out _).mono ?_; rintro e w6 ⟨rfl, hx6⟩)
            have hc6 := Ext.cell_ hx6 hc
            have hx46 := hxr.trans hx6
            clear hc HWR
            cases wd
            · have hsy := HSY.out
              rw [Bool.false_and] at hsy
              subst hsy
              go_upto_region 14 with fail
              --REGION
              refine wp_region_noPanic ?_
              refine wp_region_held_drew (S := fun W => Ext w4 W ∧ W.cell? ⟨bs, k2, none⟩ = some (.string us)) (by kernel_rfl) ?_ (fun hHeld => ?_)
              · exact ⟨Ext.drew_ hx46, hc6⟩
              refine take_ 0 (v := ?_) rfl (by kernel_rfl) (by kernel_rfl) (by kernel_rfl) (fun _ _ _ h => h) hHeld (by rfl) ?_ ?_
              rotate_left 1
              · (intro w hSw; (try dsimp only at hSw); go_simp; all_goals with_reducible rfl)
              try simp only [Act.put, List.setIfInBounds_toArray, List.set_cons_zero, List.set_cons_succ]
              refine take_ 1 (v := ?_) rfl (by kernel_rfl) (by kernel_rfl) (by kernel_rfl) (fun _ _ _ h => h) hHeld (by rfl) ?_ ?_
              rotate_left 1
              · (intro w hSw; (try dsimp only at hSw); go_simp; all_goals with_reducible rfl)
              try simp only [Act.put, List.setIfInBounds_toArray, List.set_cons_zero, List.set_cons_succ]
              refine take_ 2 (v := ?_) rfl (by kernel_rfl) (by kernel_rfl) (by kernel_rfl) (fun _ _ _ h => h) hHeld (by rfl) ?_ ?_
              rotate_left 1
              · (intro w hSw; (try dsimp only at hSw); go_simp; all_goals with_reducible rfl)
              try simp only [Act.put, List.setIfInBounds_toArray, List.set_cons_zero, List.set_cons_succ]
              refine take_ 3 (v := ?_) rfl (by kernel_rfl) (by kernel_rfl) (by kernel_rfl) (fun _ _ _ h => h) hHeld (by rfl) ?_ ?_
              rotate_left 1
              · (intro w hSw; (try dsimp only at hSw); go_simp; all_goals with_reducible rfl)
              try simp only [Act.put, List.setIfInBounds_toArray, List.set_cons_zero, List.set_cons_succ]
              refine take_ 5 (v := ?_) rfl (by kernel_rfl) (by kernel_rfl) (by kernel_rfl) (fun _ _ _ h => h) hHeld (by rfl) ?_ ?_
              rotate_left 1
              · (intro w hSw; (try dsimp only at hSw); go_simp; all_goals with_reducible rfl)
              try simp only [Act.put, List.setIfInBounds_toArray, List.set_cons_zero, List.set_cons_succ]
              refine only_ 4 rfl (by kernel_rfl) (fun K1 hK1 => ?_)
              go_simp
              go_at_call 28
              refine (HW.out _ hHeld.1).mono ?_
              rintro e w7 ⟨rfl, hx7⟩
              refine hK1.out _ _ ⟨hHeld.1.trans hx7, Ext.cell_ hx7 hHeld.2⟩ (fun hHeld => ?_)
              clear hK1
              try simp only [Act.put, List.setIfInBounds_toArray, List.set_cons_zero, List.set_cons_succ]
              refine take_ 6 (v := ?_) rfl (by kernel_rfl) (by kernel_rfl) (by kernel_rfl) (fun _ _ _ h => h) hHeld (by rfl) ?_ ?_
              rotate_left 1
              · (intro w hSw; (try dsimp only at hSw); go_simp; all_goals with_reducible rfl)
              try simp only [Act.put, List.setIfInBounds_toArray, List.set_cons_zero, List.set_cons_succ]
              refine take_ 7 (v := ?_) rfl (by kernel_rfl) (by kernel_rfl) (by kernel_rfl) (fun _ _ _ h => h) hHeld (by rfl) ?_ ?_
              rotate_left 1
              · (intro w hSw; (try dsimp only at hSw); go_simp; all_goals with_reducible rfl)
              try simp only [Act.put, List.setIfInBounds_toArray, List.set_cons_zero, List.set_cons_succ]
              refine take_ 8 (v := ?_) rfl (by kernel_rfl) (by kernel_rfl) (by kernel_rfl) (fun _ _ _ h => h) hHeld (by rfl) ?_ ?_
              rotate_left 1
              · (intro w hSw; (try dsimp only at hSw); go_simp; all_goals with_reducible rfl)
              try simp only [Act.put, List.setIfInBounds_toArray, List.set_cons_zero, List.set_cons_succ]
              refine take_ 9 (v := ?_) rfl (by kernel_rfl) (by kernel_rfl) (by kernel_rfl) (fun _ _ _ h => h) hHeld (by rfl) ?_ ?_
              rotate_left 1
              · (intro w hSw; (try dsimp only at hSw); go_simp; all_goals with_reducible rfl)
              try simp only [Act.put, List.setIfInBounds_toArray, List.set_cons_zero, List.set_cons_succ]
              refine take_ 10 (v := ?_) rfl (by kernel_rfl) (by kernel_rfl) (by kernel_rfl) (fun _ _ _ h => h) hHeld (by rfl) ?_ ?_
              rotate_left 1
              · (intro w hSw; (try dsimp only at hSw); go_simp; all_goals with_reducible rfl)
              try simp only [Act.put, List.setIfInBounds_toArray, List.set_cons_zero, List.set_cons_succ]
              refine take_ 11 (v := ?_) rfl (by kernel_rfl) (by kernel_rfl) (by kernel_rfl) (fun _ _ _ h => h) hHeld (by rfl) ?_ ?_
              rotate_left 1
              · (intro w hSw; (try dsimp only at hSw); go_simp; all_goals with_reducible rfl)
              try simp only [Act.put, List.setIfInBounds_toArray, List.set_cons_zero, List.set_cons_succ]
              refine take_ 13 (v := ?_) rfl (by kernel_rfl) (by kernel_rfl) (by kernel_rfl) (fun _ _ _ h => h) hHeld (by rfl) ?_ ?_
              rotate_left 1
              · (intro w hSw; (try dsimp only at hSw); go_simp; all_goals with_reducible rfl)
              try simp only [Act.put, List.setIfInBounds_toArray, List.set_cons_zero, List.set_cons_succ]
              refine take_ 14 (v := ?_) rfl (by kernel_rfl) (by kernel_rfl) (by kernel_rfl) (fun _ _ _ h => h) hHeld (by rfl) ?_ ?_
              rotate_left 1
              · (intro w hSw; (try dsimp only at hSw); go_simp; all_goals with_reducible rfl)
              try simp only [Act.put, List.setIfInBounds_toArray, List.set_cons_zero, List.set_cons_succ]
              refine take_ 15 (v := ?_) rfl (by kernel_rfl) (by kernel_rfl) (by kernel_rfl) (fun _ _ _ h => h) hHeld (by rfl) ?_ ?_
              rotate_left 1
              · (intro w hSw; (try dsimp only at hSw); go_simp; all_goals with_reducible rfl)
              try simp only [Act.put, List.setIfInBounds_toArray, List.set_cons_zero, List.set_cons_succ]
              refine take_ 16 (v := ?_) rfl (by kernel_rfl) (by kernel_rfl) (by kernel_rfl) (fun _ _ _ h => h) hHeld (by rfl) ?_ ?_
              rotate_left 1
              · (intro w hSw; (try dsimp only at hSw); go_simp; all_goals with_reducible rfl)
              try simp only [Act.put, List.setIfInBounds_toArray, List.set_cons_zero, List.set_cons_succ]
              refine only_ 12 rfl (by kernel_rfl) (fun K1 hK1 => ?_)
              go_simp
              go_at_call 29
              refine (HS.out _ hHeld.1).mono ?_
              rintro e w7 ⟨rfl, hx7⟩
              refine hK1.out _ _ ⟨hHeld.1.trans hx7, Ext.cell_ hx7 hHeld.2⟩ (fun hHeld => ?_)
              clear hK1
              try simp only [Act.put, List.setIfInBounds_toArray, List.set_cons_zero, List.set_cons_succ]
              refine only_ 17 rfl (by kernel_rfl) (fun K1 hK1 => ?_)
              go_simp
              go_at_call 30
              refine (HSR.out _).mono ?_
              rintro e w7 ⟨rfl, hx7⟩
              refine hK1.out _ _ ⟨hHeld.1.trans hx7, Ext.cell_ hx7 hHeld.2⟩ (fun hHeld => ?_)
              clear hK1
              try simp only [Act.put, List.setIfInBounds_toArray, List.set_cons_zero, List.set_cons_succ]
              refine take_ 18 (v := ?_) rfl (by kernel_rfl) (by kernel_rfl) (by kernel_rfl) (fun _ _ _ h => h) hHeld (by rfl) ?_ ?_
              rotate_left 1
              · (intro w hSw; (try dsimp only at hSw); go_simp; all_goals with_reducible rfl)
              try simp only [Act.put, List.setIfInBounds_toArray, List.set_cons_zero, List.set_cons_succ]
              refine take_ 19 (v := ?_) rfl (by kernel_rfl) (by kernel_rfl) (by kernel_rfl) (fun _ _ _ h => h) hHeld (by rfl) ?_ ?_
              rotate_left 1
              · (intro w hSw; (try dsimp only at hSw); go_simp; all_goals with_reducible rfl)
              try simp only [Act.put, List.setIfInBounds_toArray, List.set_cons_zero, List.set_cons_succ]
              refine take_ 20 (v := ?_) rfl (by kernel_rfl) (by kernel_rfl) (by kernel_rfl) (fun _ _ _ h => h) hHeld (by rfl) ?_ ?_
              rotate_left 1
              · (intro w hSw; (try dsimp only at hSw); go_simp; all_goals with_reducible rfl)
              try simp only [Act.put, List.setIfInBounds_toArray, List.set_cons_zero, List.set_cons_succ]
              refine take_ 21 (v := ?_) rfl (by kernel_rfl) (by kernel_rfl) (by kernel_rfl) (fun _ _ _ h => h) hHeld (by rfl) ?_ ?_
              rotate_left 1
              · (intro w hSw; (try dsimp only at hSw); go_simp; all_goals with_reducible rfl)
              try simp only [Act.put, List.setIfInBounds_toArray, List.set_cons_zero, List.set_cons_succ]
              refine take_ 22 (v := ?_) rfl (by kernel_rfl) (by kernel_rfl) (by kernel_rfl) (fun _ _ _ h => h) hHeld (by rfl) ?_ ?_
              rotate_left 1
              · (intro w hSw; (try dsimp only at hSw); go_simp; all_goals with_reducible rfl)
              try simp only [Act.put, List.setIfInBounds_toArray, List.set_cons_zero, List.set_cons_succ]
              refine take_ 23 (v := ?_) rfl (by kernel_rfl) (by kernel_rfl) (by kernel_rfl) (fun _ _ _ h => h) hHeld (by rfl) ?_ ?_
              rotate_left 1
              · (intro w hSw; (try dsimp only at hSw); go_simp; all_goals with_reducible rfl)
              try simp only [Act.put, List.setIfInBounds_toArray, List.set_cons_zero, List.set_cons_succ]
              refine take_ 24 (v := ?_) rfl (by kernel_rfl) (by kernel_rfl) (by kernel_rfl) (fun _ _ _ h => h) hHeld (by rfl) ?_ ?_
              rotate_left 1
              · (intro w hSw; (try dsimp only at hSw); go_simp; all_goals with_reducible rfl)
              try simp only [Act.put, List.setIfInBounds_toArray, List.set_cons_zero, List.set_cons_succ]
              refine take_ 26 (v := ?_) rfl (by kernel_rfl) (by kernel_rfl) (by kernel_rfl) (fun _ _ _ h => h) hHeld (by rfl) ?_ ?_
              rotate_left 1
              · (intro w hSw; (try dsimp only at hSw); go_simp; all_goals with_reducible rfl)
              try simp only [Act.put, List.setIfInBounds_toArray, List.set_cons_zero, List.set_cons_succ]
              refine only_ 25 rfl (by kernel_rfl) (fun K1 hK1 => ?_)
              go_simp
              go_at_call 29
              refine (HS.out _ hHeld.1).mono ?_
              rintro e w7 ⟨rfl, hx7⟩
              refine hK1.out _ _ ⟨hHeld.1.trans hx7, Ext.cell_ hx7 hHeld.2⟩ (fun hHeld => ?_)
              clear hK1
              try simp only [Act.put, List.setIfInBounds_toArray, List.set_cons_zero, List.set_cons_succ]
              refine take_ 27 (v := ?_) rfl (by kernel_rfl) (by kernel_rfl) (by kernel_rfl) (fun _ _ _ h => h) hHeld (by rfl) ?_ ?_
              rotate_left 1
              · (intro w hSw; (try dsimp only at hSw); go_simp; all_goals with_reducible rfl)
              try simp only [Act.put, List.setIfInBounds_toArray, List.set_cons_zero, List.set_cons_succ]
              refine skip_ 28 rfl (by kernel_rfl) (by kernel_rfl) (by kernel_rfl) (fun _ _ _ h => h) hHeld (by rfl) ?_
              try simp only [Act.put, List.setIfInBounds_toArray, List.set_cons_zero, List.set_cons_succ]
              refine skip_ 29 rfl (by kernel_rfl) (by kernel_rfl) (by kernel_rfl) (fun _ _ _ h => h) hHeld (by rfl) ?_
              try simp only [Act.put, List.setIfInBounds_toArray, List.set_cons_zero, List.set_cons_succ]
              refine skip_ 30 rfl (by kernel_rfl) (by kernel_rfl) (by kernel_rfl) (fun _ _ _ h => h) hHeld (by rfl) ?_
              try simp only [Act.put, List.setIfInBounds_toArray, List.set_cons_zero, List.set_cons_succ]
              refine skip_ 31 rfl (by kernel_rfl) (by kernel_rfl) (by kernel_rfl) (fun _ _ _ h => h) hHeld (by rfl) ?_
              try simp only [Act.put, List.setIfInBounds_toArray, List.set_cons_zero, List.set_cons_succ]
              refine only_ 32 rfl (by kernel_rfl) (fun K1 hK1 => ?_)
              go_simp
              refine hK1.out _ _ hHeld (fun hHeld => ?_)
              clear hK1
              try simp only [Act.put, List.setIfInBounds_toArray, List.set_cons_zero, List.set_cons_succ]
              refine skip_ 33 rfl (by kernel_rfl) (by kernel_rfl) (by kernel_rfl) (fun _ _ _ h => h) hHeld (by rfl) ?_
              try simp only [Act.put, List.setIfInBounds_toArray, List.set_cons_zero, List.set_cons_succ]
              refine skip_ 34 rfl (by kernel_rfl) (by kernel_rfl) (by kernel_rfl) (fun _ _ _ h => h) hHeld (by rfl) ?_
              try simp only [Act.put, List.setIfInBounds_toArray, List.set_cons_zero, List.set_cons_succ]
              refine take_ 35 (v := ?_) rfl (by kernel_rfl) (by kernel_rfl) (by kernel_rfl) (fun _ _ _ h => h) hHeld (by rfl) ?_ ?_
              rotate_left 1
              · (intro w hSw; (try dsimp only at hSw); go_simp; all_goals with_reducible rfl)
              try simp only [Act.put, List.setIfInBounds_toArray, List.set_cons_zero, List.set_cons_succ]
              refine take_ 36 (v := ?_) rfl (by kernel_rfl) (by kernel_rfl) (by kernel_rfl) (fun _ _ _ h => h) hHeld (by rfl) ?_ ?_
              rotate_left 1
              · (intro w hSw; (try dsimp only at hSw); go_simp; all_goals with_reducible rfl)
              try simp only [Act.put, List.setIfInBounds_toArray, List.set_cons_zero, List.set_cons_succ]
              refine take_ 37 (v := ?_) rfl (by kernel_rfl) (by kernel_rfl) (by kernel_rfl) (fun _ _ _ h => h) hHeld (by rfl) ?_ ?_
              rotate_left 1
              · (intro w hSw; (try dsimp only at hSw); go_simp; all_goals with_reducible rfl)
              try simp only [Act.put, List.setIfInBounds_toArray, List.set_cons_zero, List.set_cons_succ]
              refine wpAnyH_done (by kernel_rfl) ?_ _
              refine NoPanic.normal ?_
              --END OF REGION
              all_goals go_wp2_with fail
              all_goals exact ⟨⟨k2 + 1, by omega, by go_num, by first | with_reducible exact hHeld.1 | with_reducible assumption⟩, by simp [intOf]; omega⟩
            · have hsy := HSY.out
              rw [Bool.true_and] at hsy
              by_cases hm1 : m = 1
              · rw [decide_eq_true hm1] at hsy
                subst hsy
                have hmb : ((m : Int) == 1) = true := by simp; omega
                go_upto_region 14 with fail
                go_region_held3 (fun W => Ext w4 W ∧ W.cell? ⟨bs, k2, none⟩ = some (.string us))
                  (first | exact ⟨Ext.drew_ hx46, hc6⟩ | exact ⟨by with_reducible assumption, by with_reducible assumption⟩)
                  (first
                    | (go_at_call 28; with_reducible refine (HW.out _ ?_).mono ?_; (first | with_reducible assumption | exact Ext.drew_ hx46); rintro e w5 ⟨rfl, hx5⟩; (first | (have hE5 := (Ext.drew_ hx46).trans hx5; have hC5 := Ext.cell_ ((Ext.drew_ (Ext.refl _)).trans hx5) hc6) | (have hE5 := hE5.trans hx5; have hC5 := Ext.cell_ hx5 hC5)))
                    | (go_at_call 29; with_reducible refine (HS.out _ ?_).mono ?_; (first | with_reducible assumption | exact Ext.drew_ hx46); rintro e w5 ⟨rfl, hx5⟩; (first | (have hE5 := (Ext.drew_ hx46).trans hx5; have hC5 := Ext.cell_ ((Ext.drew_ (Ext.refl _)).trans hx5) hc6) | (have hE5 := hE5.trans hx5; have hC5 := Ext.cell_ hx5 hC5)))
                    | (go_at_call 30; with_reducible refine (HSR.out _).mono ?_; rintro e w5 ⟨rfl, hx5⟩; (first | (have hE5 := (Ext.drew_ hx46).trans hx5; have hC5 := Ext.cell_ ((Ext.drew_ (Ext.refl _)).trans hx5) hc6) | (have hE5 := hE5.trans hx5; have hC5 := Ext.cell_ hx5 hC5)))
                    | (go_at_call 31; with_reducible refine (HSP.out _).mono ?_; rintro e w5 ⟨FE, fc, rfl, hx5⟩; (first | (have hE5 := (Ext.drew_ hx46).trans hx5; have hC5 := Ext.cell_ ((Ext.drew_ (Ext.refl _)).trans hx5) hc6) | (have hE5 := hE5.trans hx5; have hC5 := Ext.cell_ hx5 hC5))))
                all_goals go_wp2_with fail
                all_goals exact ⟨⟨k2 + 1, by omega, by go_num, by first | with_reducible exact hHeld.1 | with_reducible assumption⟩, by simp [intOf]; omega⟩
              · rw [decide_eq_false hm1] at hsy
                subst hsy
                have hmb : ((m : Int) == 1) = false := by simp; omega
                go_upto_region 14 with fail
                go_region_held3 (fun W => Ext w4 W ∧ W.cell? ⟨bs, k2, none⟩ = some (.string us))
                  (first | exact ⟨Ext.drew_ hx46, hc6⟩ | exact ⟨by with_reducible assumption, by with_reducible assumption⟩)
                  (first
                    | (go_at_call 28; with_reducible refine (HW.out _ ?_).mono ?_; (first | with_reducible assumption | exact Ext.drew_ hx46); rintro e w5 ⟨rfl, hx5⟩; (first | (have hE5 := (Ext.drew_ hx46).trans hx5; have hC5 := Ext.cell_ ((Ext.drew_ (Ext.refl _)).trans hx5) hc6) | (have hE5 := hE5.trans hx5; have hC5 := Ext.cell_ hx5 hC5)))
                    | (go_at_call 29; with_reducible refine (HS.out _ ?_).mono ?_; (first | with_reducible assumption | exact Ext.drew_ hx46); rintro e w5 ⟨rfl, hx5⟩; (first | (have hE5 := (Ext.drew_ hx46).trans hx5; have hC5 := Ext.cell_ ((Ext.drew_ (Ext.refl _)).trans hx5) hc6) | (have hE5 := hE5.trans hx5; have hC5 := Ext.cell_ hx5 hC5)))
                    | (go_at_call 30; with_reducible refine (HSR.out _).mono ?_; rintro e w5 ⟨rfl, hx5⟩; (first | (have hE5 := (Ext.drew_ hx46).trans hx5; have hC5 := Ext.cell_ ((Ext.drew_ (Ext.refl _)).trans hx5) hc6) | (have hE5 := hE5.trans hx5; have hC5 := Ext.cell_ hx5 hC5)))
                    | (go_at_call 31; with_reducible refine (HSP.out _).mono ?_; rintro e w5 ⟨FE, fc, rfl, hx5⟩; (first | (have hE5 := (Ext.drew_ hx46).trans hx5; have hC5 := Ext.cell_ ((Ext.drew_ (Ext.refl _)).trans hx5) hc6) | (have hE5 := hE5.trans hx5; have hC5 := Ext.cell_ hx5 hC5))))
                all_goals go_wp2_with fail
                all_goals exact ⟨⟨k2 + 1, by omega, by go_num, by first | with_reducible exact hHeld.1 | with_reducible assumption⟩, by simp [intOf]; omega⟩
          · have e2 : k2 = 2 := by omega
            subst e2
            have HTW := Lib.hid (HT4.out.ext hxr)
            go_wp2_with (go_at_call 23; with_reducible refine (lives11 _ HTW.out).mono ?_; rintro e w7 ⟨rfl, hx7⟩)
            go_ret
            exact ⟨rfl, (HX4.out.trans hxr).trans hx7⟩
end Go.Proofs.YtdkjkbbibdppoaaGreatDoor.Loc

/- Openings of a law's arguments: a list of whole numbers; the two listed tables. -/
namespace Go.Proofs.YtdkjkbbibdppoaaGreatDoor.Loc
open Go.RowKit Utf All Small Strs Build Pat Cls Go.ChangeShapes
set_option linter.unusedVariables false
set_option linter.unusedSimpArgs false

theorem open_ints_ {H : Type} {enc : TypeId × Value → H} {W : World} {v : Value} {d : DataW H} {ps : List MemPlace} (hv : ∃ a len cap, v = .slice a len cap) (h : DataW.Trod enc Tryz.prog W 0 (fun _ => true) true 22 v d ps) :
    ∃ (A : Option Addr) (cap : Nat) (xs : List Int), v = .slice A xs.length cap ∧ Row W A (xs.map (Value.int .i64)) ∧ (∀ z ∈ xs, i64 z) ∧ xs.length ≤ maxLen := by
  obtain ⟨a, len, cap, rfl⟩ := hv
  obtain ⟨fuel, h⟩ := h
  rcases open_ints Tryz.underlying22 Tryz.underlying3 (by kernel_rfl) h with ⟨hcs, _⟩ | ⟨x, l, c, zs, hcs, _, hl, hm, hz, _, hcell, hwz⟩
  · simp [Value.cells] at hcs
    obtain ⟨rfl, rfl, rfl⟩ := hcs
    exact ⟨none, 0, [], rfl, .inl rfl, by simp, Nat.zero_le _⟩
  · simp [Value.cells] at hcs
    obtain ⟨rfl, rfl, rfl⟩ := hcs
    obtain ⟨h1, h2, xs, hx, hr, hw⟩ := row_of_is (w := W) (a := some x) (len := len) (cap := cap) (zs := zs) (.inr ⟨x, rfl, hl, hm, by simpa using hz, hcell, hwz⟩)
    exact ⟨some x, cap, xs, by rw [hx], hr, fun z hz' => ⟨(bounds_i64 (hw z hz')).1, (bounds_i64 (hw z hz')).2⟩, by omega⟩
theorem tabs_of {W : World} {l : List (String × DataW Unit)} (hL : laidMet Tryz.prog l W) (h1 : ("unicode/utf8.first", Lib.firstData) ∈ l) (h2 : ("unicode/utf8.acceptRanges", Lib.acceptData) ∈ l) : Tabs W :=
  utf8Tabs_of_readsT (U8Types.of196 Tryz.laysValid) ⟨by kernel_rfl, by kernel_rfl, by kernel_rfl, by kernel_rfl, by kernel_rfl, by kernel_rfl, by kernel_rfl⟩ (Lib.laidMet.reads hL h1) (Lib.laidMet.reads hL h2)
end Go.Proofs.YtdkjkbbibdppoaaGreatDoor.Loc
