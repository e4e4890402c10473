/- Walk: the law SystemReads. -/
import Derived.Test.YtbhmmodphjmlmaaSys8
import Derived.Test.YtbhmmodphjmlmaaAcc2
import Derived.Deep.RegionLaw
import Derived.Deep.DeepCutAuto
namespace Go.Proofs.Ytbhmmodphjmlmaa.Sys
open Go.RowKit Utf Small Build All Dec
set_option linter.unusedVariables false
set_option linter.unusedSimpArgs false

theorem Row.str_at {w : World} {A : Option Addr} {xs : List ByteArray} (h : Row w A (xs.map Value.string)) {k : Nat} (hk : k < xs.length) :
    ∃ b off, A = some ⟨b, off, none⟩ ∧ w.cell? ⟨b, off + k, none⟩ = some (.string xs[k]) := row_str h hk

theorem ext3_le (os : ByteArray) (k : Nat) (l : List UInt8) (hl : l.length ≤ 1) (hos : os.size ≤ 48) : (os.extract 0 k ++ ⟨l.toArray⟩ ++ os.extract (k + 1) os.size).size ≤ 1000 := by
  have e1 : (os.extract 0 k).size ≤ 48 := by rw [ByteArray.size_extract]; omega
  have e2 : (os.extract (k + 1) os.size).size ≤ 48 := by rw [ByteArray.size_extract]; omega
  have e3 : (⟨l.toArray⟩ : ByteArray).size ≤ 1 := by show l.toArray.size ≤ 1; simpa using hl
  rw [ByteArray.size_append, ByteArray.size_append]
  omega
theorem st3_le {a b c : ByteArray} (h1 : Hid (a.size ≤ 1000)) (h2 : Hid (b.size ≤ 1000)) (h3 : c.size ≤ 1000) : ∀ x ∈ [a, b, c], x.size ≤ 1000 := by
  intro x hx
  have h1 := h1.out
  have h2 := h2.out
  simp at hx
  rcases hx with rfl | rfl | rfl <;> assumption
theorem same_self (A B : Option Addr) (c d : Nat) (xs : List Int) (w : World) (hx : Row w A (xs.map (Value.int .i64))) (hy : Row w B (xs.map (Value.int .i64))) (hl : xs.length ≤ maxLen) :
    Calls Try.prog 33 #[.slice A xs.length c, .slice B xs.length d] w fun e w' => e = .returned (.bool true) ∧ Ext w w' := by
  have h := same A B c d xs xs w hx hy hl hl
  rw [show decide (xs = xs) = true by simp] at h
  exact h
theorem one_str (s : ByteArray) : ∀ u ∈ [Value.string s], u.oneCell' = true := by simp [Value.oneCell']
attribute [local go_sem] run_lit1
set_option maxHeartbeats 1000000 in
set_option maxRecDepth 100000 in
theorem law09_SystemReads (n : Int) (s : ByteArray) (A : Option Addr) (cap : Nat) (xs : List Int) (at_ c : Int) (t : ByteArray) (w : World) (n1 : -9223372036854775808 ≤ n) (n2 : n ≤ 9223372036854775807)
    (hs : s.size ≤ maxLen) (hr : Row w A (xs.map (Value.int .i64))) (hl : xs.length ≤ maxLen) (hz : ∀ x ∈ xs, -9223372036854775808 ≤ x ∧ x ≤ 9223372036854775807)
    (a1 : -9223372036854775808 ≤ at_) (a2 : at_ ≤ 9223372036854775807) (ht : t.size ≤ maxLen) :
    Calls Try.prog 7 #[.int .i64 n, .string s, .slice A xs.length cap, .int .i64 at_, .int .u8 c, .string t] w fun e w' => e = .returned (.bool true) ∧ Ext w w' := by
  have hfs := fewB_size s 40
  have hft := fewB_size t 12
  have HG : Hid (shapeZ (nameOf n) (goodL xs 12) = (shapeB (zeroZ (nameOf n)) (goodL xs 12), 0)) := Lib.hid (by unfold shapeZ; rw [if_neg (by have := name_pos n; omega), goodL_ok]; rfl)
  have hsb := shapeB_le (zeroZ (nameOf n)) (goodL xs 12)
  have HGL := Lib.hid (goodL_len xs 12)
  go_enter Try.func7, Try.ntmps7
  go_wp2_with fail
  refine (ref_name _ _ n1 n2).mono ?_; rintro e w1 ⟨rfl, hx1⟩
  go_wp2_with fail
  refine (few _ 40 _ hs (by decide)).mono ?_; rintro e w2 ⟨rfl, rfl⟩
  generalize fewB s 40 = s' at *
  go_wp2_with fail
  refine (ref05_good _ _ xs 12 _ (hr.below hx1 (Nat.le_refl _)) hl (by decide) hz).mono ?_; rintro e w2 ⟨A1, d1, rfl, hown, hx2⟩
  rw [← HGL.out]
  have hgl : (goodL xs 12).length ≤ 12 := by rw [HGL.out]; omega
  generalize goodL xs 12 = own at *
  generalize nameOf n = nm at *
  clear hr hz HGL
  go_wp2_with fail
  refine (ref_shape _ _ _ own _ hown (by omega)).mono ?_; rintro e w3 ⟨rfl, hx3⟩
  rw [HG.out]
  clear HG hown
  generalize shapeB (zeroZ nm) own = ol at *
  have hos : ({ data := ol.toArray } : ByteArray).size ≤ 48 := by simp [ByteArray.size]; omega
  dsimp only
  generalize ({ data := ol.toArray } : ByteArray) = os at *
  have hxa : Ext w w3 := (hx1.trans hx2).trans hx3
  clear hx1 hx2 hx3 hsb hgl
  have hacc : Acc 9 1 w3 (w3.alloc (.cells #[.string s', .string os] 9)) (some ⟨w3.heap.size, 0, none⟩) 2 2 [.string s', .string os] := Acc.lit (Ext.refl _) [.string s', .string os] 2 rfl (by decide)
  have HFS : Hid (s'.size ≤ 1000) := Lib.hid (by omega)
  have HOS : Hid (os.size ≤ 1000) := Lib.hid (by omega)
  go_upto_if 40 with fail
  go_cut [16] (fun v wx => ∃ (m : Nat) (A : Option Addr) (c : Nat) (sts : List ByteArray), (∀ x ∈ sts, x.size ≤ 1000) ∧ sts.length = m ∧ m ≤ 3 ∧ v = .slice A m c ∧ Acc 9 1 w3 wx A c m (sts.map Value.string))
  case first =>
    by_cases h0 : os.size = 0
    · have he : os.toList.isEmpty = true := by rw [ByteArray.toList_eq, data_nil h0]; rfl
      rw [he]
      go_wp2_with fail
      go_meet
      exact ⟨2, _, _, [s', os], by simp; omega, rfl, by omega, rfl, hacc⟩
    · have he : os.toList.isEmpty = false := by
        rw [ByteArray.toList_eq]
        have := data_len os
        cases hh : os.data.toList with
        | nil => rw [hh] at this; simp at this; omega
        | cons a l => rfl
      rw [he]
      have h1 : 1 ≤ os.size := by omega
      clear h0
      go_wp2_with fail
      refine (around _ _ _ a1 a2 (by omega) (by omega)).mono ?_; rintro e w4 ⟨rfl, rfl⟩
      have hk := aroundF_bd at_ os.size (by omega)
      generalize aroundF at_ os.size = k at *
      obtain ⟨k, rfl⟩ := Int.eq_ofNat_of_zero_le hk.1
      have hk2 : k < os.size := by omega
      clear hk
      have k1 : k ≤ os.size := by omega
      have k2 : k + 1 ≤ os.size := by omega
      have k3 : IntKind.i64.wrap ((k : Int) + 1) = (k : Int) + 1 := IntWalk.i64_in _ (by omega)
      have k6 : (k : Int) + 1 ≤ (os.size : Int) := by omega
      have k4 : (0 : Int) ≤ (k : Int) + 1 := by omega
      have k5 : ((k : Int) + 1).toNat = k + 1 := by omega
      have hrow1 : Row ((w3.alloc (.cells #[.string s', .string os] 9)).alloc (.cells #[.int .u8 c] 5)).drew (some ⟨w3.heap.size + 1, 0, none⟩) ([c].map (Value.int .u8)) := by
        have := row_new (w3.alloc (.cells #[.string s', .string os] 9)) [.int .u8 c] 5
        rw [show (w3.alloc (.cells #[.string s', .string os] 9)).heap.size = w3.heap.size + 1 by simp] at this
        exact this
      have hconv := run_bytes_str _ (some ⟨w3.heap.size + 1, 0, none⟩) 1 [c] hrow1
      simp only [List.length_cons, List.length_nil, Nat.zero_add] at hconv
      have q1 : (9223372036854775807 < k + (bytesZ [c]).length) = False := eq_false (by simp [bytesZ]; omega)
      have q2 : (9223372036854775807 < k + (bytesZ [c]).length + (os.size - (k + 1))) = False := eq_false (by simp [bytesZ]; omega)
      have HST : Hid ((os.extract 0 k ++ ⟨(bytesZ [c]).toArray⟩ ++ os.extract (k + 1) os.size).size ≤ 1000) := Lib.hid (ext3_le os k (bytesZ [c]) (by simp [bytesZ]) hos)
      have hN2 : Hid (w3.heap.size + 1 + 1 = ((w3.alloc (.cells #[.string s', .string os] 9)).alloc (.cells #[.int .u8 c] 5)).heap.size) := Lib.hid (by simp)
      go_wp2_with fail
      go_region_law (with_reducible refine step_app_drew ei_str rfl (.tmp 45) (.tmp 58) rfl w3 _ (some ⟨w3.heap.size, 0, none⟩) 2 2 _ (by kernel_rfl) (Acc.alloc hacc _) [.string (os.extract 0 k ++ ⟨(bytesZ [c]).toArray⟩ ++ os.extract (k + 1) os.size)] 1 1 (w3.heap.size + 1 + 1) (by kernel_rfl) hN2.out rfl (one_str _) (by decide) (by decide) (fun A' c' w' hacc' _ _ => ?_))
      all_goals
        go_wp2_with fail
        go_meet
        exact ⟨3, A', c', [s', os, _], st3_le HFS HOS HST.out, rfl, by decide, rfl, hacc'⟩
  case rest =>
    obtain ⟨m, A', c', sts, hst, hm, hm3, rfl, hacc'⟩ := hcut
    have hx4 : Ext w3 wc := hacc'.ext
    have hall := hacc'.row
    have HM := Lib.hid hm
    have HSZ := Lib.hid hst
    clear hm hst hacc' hacc
    go_wp2_with fail
    refine (few _ 12 _ ht (by decide)).mono ?_; rintro e w5 ⟨rfl, rfl⟩
    generalize fewB t 12 = t' at *
    have hnames : Row (wc.alloc (.cells #[.string nm, .string t'] 9)) (some ⟨wc.heap.size, 0, none⟩) ([nm, t'].map Value.string) := row_new wc ([nm, t'].map Value.string) 9
    have hx5 : Ext wc (wc.alloc (.cells #[.string nm, .string t'] 9)) := (Below.refl _ _).alloc (Nat.le_refl _) _
    go_wp2_with fail
    have hall5 := hall.below hx5 (Nat.le_refl _)
    generalize wc.alloc (.cells #[.string nm, .string t'] 9) = w5 at *
    generalize hns : [nm, t'] = ns at *
    have HNS : Hid (ns.length = 2) := Lib.hid (by rw [← hns]; rfl)
    clear hns
    generalize wc.heap.size = b at *
    go_loopw [19] (fun i wr => ∃ k : Nat, k ≤ m ∧ i = .int .i64 k ∧ Ext w5 wr) (fun i _ => m - (intOf i).toNat)
    case atStart => exact ⟨0, Nat.zero_le _, rfl, Ext.refl _⟩
    case round =>
      obtain ⟨k, hk, rfl, hxr⟩ := hrel
      by_cases hlt : k < m
      · have kx : k < sts.length := by rw [HM.out]; exact hlt
        obtain ⟨ab, aoff, rfl, hca⟩ := Row.str_at hall5 kx
        have HST : Hid (sts[k].size ≤ 1000) := Lib.hid (HSZ.out _ (List.getElem_mem kx))
        generalize sts[k] = st at *
        clear kx
        have i1 : ((k : Int) < (m : Int)) := by omega
        go_wp2_with fail
        go_loopw [20] (fun j wr => ∃ q : Nat, q ≤ 2 ∧ j = .int .i64 q ∧ Ext w5 wr) (fun j _ => 2 - (intOf j).toNat)
        case atStart => exact ⟨0, by omega, rfl, hxr⟩
        case round =>
          obtain ⟨q, hq, rfl, hxq⟩ := hrel
          by_cases hq2 : q < 2
          · have qx : q < ns.length := by rw [HNS.out]; exact hq2
            obtain ⟨nb, noff, hnb, hcn⟩ := Row.str_at hnames qx
            cases hnb
            rw [Nat.zero_add] at hcn
            generalize ns[q] = sn at *
            clear qx
            have i2 : ((q : Int) < 2) := by omega
            have hca' := Ext.cell_ hxq hca
            have hcn' := Ext.cell_ hxq hcn
            have HL : Hid ((readZ sn st.data.toList).1.length ≤ maxLen) := Lib.hid (by have := readZ_len sn st.data.toList; rw [data_len] at this; have := HST.out; unfold maxLen; omega)
            have hst9 : st.size ≤ 1000000000000 := by have := HST.out; omega
            go_upto_region 15 with fail
            go_cut [21, 22] (fun v u wx => ∃ (A : Option Addr) (c : Nat), v = .slice A (readZ sn st.data.toList).1.length c ∧ u = .int .i64 (readZ sn st.data.toList).2 ∧ Row wx A ((readZ sn st.data.toList).1.map (Value.int .i64)) ∧ Ext w5 wx)
            case first =>
              go_region_with (go_at_call 32; refine (sys_read _ _ _ hst9).mono ?_; rintro e w6 ⟨A6, c6, rfl, hr6, hx6⟩)
              all_goals
                go_wp2_with fail
                go_meet
                exact ⟨_, _, rfl, rfl, hr6, hxq.trans (Ext.trans ((Below.refl _ _).drew) hx6)⟩
            case rest =>
              obtain ⟨A6, c6, rfl, rfl, hr6, hx6⟩ := hcut
              clear hca' hcn'
              have hca' := Ext.cell_ hx6 hca
              have hcn' := Ext.cell_ hx6 hcn
              go_upto_region 16 with fail
              go_cut [23, 24] (fun v u wx => ∃ (A : Option Addr) (c : Nat), v = .slice A (readZ sn st.data.toList).1.length c ∧ u = .int .i64 (readZ sn st.data.toList).2 ∧ Row wx A ((readZ sn st.data.toList).1.map (Value.int .i64)) ∧ Ext wc wx)
              case first =>
                go_region_with (go_at_call 34; refine (ref_read _ _ _ hst9).mono ?_; rintro e w7 ⟨A7, c7, rfl, hr7, hx7⟩)
                all_goals
                  go_wp2_with fail
                  go_meet
                  exact ⟨_, _, rfl, rfl, hr7, Ext.trans ((Below.refl _ _).drew) hx7⟩
              case rest =>
                obtain ⟨A7, c7, rfl, rfl, hr7, hx7⟩ := hcut
                have hr6' := hr6.below hx7 (Nat.le_refl _)
                have hx57 := Ext.trans hx6 hx7
                generalize (readZ sn st.data.toList).1 = rs at *
                generalize (readZ sn st.data.toList).2 = er at *
                clear hca' hcn' hr6 hx7 hx6
                go_wp2_with fail
                refine (same_self _ _ _ _ _ _ hr6' hr7 HL.out).mono ?_; rintro e w8 ⟨rfl, hx8⟩
                go_wp2_with fail
                go_roundw
                case rel => exact ⟨q + 1, by omega, by go_num, Ext.trans hx57 hx8⟩
                case measure => simp [intOf]; omega
          · have e : q = 2 := by omega
            subst e
            go_wp2_with fail
            go_roundw
            case rel => exact ⟨k + 1, by omega, by go_num, hxq⟩
            case measure => simp [intOf]; omega
      · have e : k = m := by omega
        subst e
        go_wp2_with fail
        refine (law09_lives _).mono ?_; rintro e w8 ⟨rfl, hx8⟩
        go_wp2
        go_ret
        exact ⟨rfl, ((hxa.trans hx4).trans hx5).trans (hxr.trans hx8)⟩
end Go.Proofs.Ytbhmmodphjmlmaa.Sys
