/- Walks: atoms made such; a clip's text; are clips the same?, both sides. (Printed by wip/gen/paw7.py.) -/
import Derived.Test.YtaobgbhgckndkaaGreatDoorJPaW
namespace Go.Proofs.YtaobgbhgckndkaaGreatDoor.Loc
open Go.RowKit Utf All Small Strs Build EncC Pat Cls Dec Go.Proofs.YtaobgbhgckndkaaGreatDoor.Sys
set_option linter.unusedVariables false
set_option linter.unusedSimpArgs false

def pointsL (xs : List Int) (m : Nat) : List Int := (xs.take m).map fun x => aroundF x 11
theorem points_bd (xs : List Int) (m : Nat) : ∀ x ∈ pointsL xs m, 0 ≤ x ∧ x ≤ 10 := by
  intro x hx
  obtain ⟨y, _, rfl⟩ := List.mem_map.1 hx
  have := aroundF_bd y 11 (by omega)
  omega
theorem points_len (xs : List Int) (m : Nat) : (pointsL xs m).length ≤ m := by unfold pointsL; rw [List.length_map, List.length_take]; omega
theorem points_snoc (xs : List Int) {k : Nat} (h : k < xs.length) : (xs.take (k + 1)).map (fun x => aroundF x 11) = (xs.take k).map (fun x => aroundF x 11) ++ [aroundF xs[k] 11] := by
  rw [List.take_succ_eq_append_getElem h, List.map_append]; rfl
set_option maxHeartbeats 2000000 in
set_option maxRecDepth 100000 in
theorem ref14_points (A : Option Addr) (n c : Nat) (xs : List Int) (m : Nat) (w : World) (hr : Row w A (xs.map (Value.int .i64))) (hn : xs.length = n) (hnl : n ≤ maxLen) (hm : m ≤ 100) (hx : ∀ x ∈ xs, i64 x) :
    Calls Tryz.prog 32 #[.slice A n c, .int .i64 (m : Int)] w fun e w' => ∃ E c', e = .returned (.slice E (pointsL xs m).length c') ∧ Acc 3 1 w w' E c' (pointsL xs m).length ((pointsL xs m).map (Value.int .i64)) := by
  have HR := Lib.hid hr
  have HN := Lib.hid hn
  have HX := Lib.hid hx
  have HSN : Hid (∀ k (hk : k < xs.length), ((xs.take (k + 1)).map (fun x => aroundF x 11)).map (Value.int .i64) = ((xs.take k).map (fun x => aroundF x 11)).map (Value.int .i64) ++ [.int .i64 (aroundF xs[k] 11)]) := Lib.hid fun k hk => by
    rw [points_snoc xs hk, List.map_append]; rfl
  have HEND : Hid (∀ k, k ≤ xs.length → k ≤ m → (k = xs.length ∨ k = m) → pointsL xs m = (xs.take k).map (fun x => aroundF x 11) ∧ (pointsL xs m).length = k) := Lib.hid fun k h1 h2 h3 => by
    have e : pointsL xs m = (xs.take k).map (fun x => aroundF x 11) := by
      unfold pointsL
      rcases h3 with h3 | h3
      · rw [List.take_of_length_le (by omega), List.take_of_length_le (by omega)]
      · rw [h3]
    exact ⟨e, by rw [e, List.length_map, List.length_take]; omega⟩
  unfold maxLen at hnl
  clear hr hn hx
  go_enter Tryz.func32, Tryz.ntmps32
  go_wp2
  go_loopw [5, 6] (fun v i wr => ∃ (k : Nat) (E : Option Addr) (c' : Nat), k ≤ n ∧ k ≤ m ∧ i = .int .i64 k ∧ v = .slice E k c' ∧ Acc 3 1 w wr E c' k (((xs.take k).map (fun x => aroundF x 11)).map (Value.int .i64))) (fun _ i _ => n - (intOf i).toNat)
  case atStart => exact ⟨0, none, 0, Nat.zero_le _, Nat.zero_le _, rfl, rfl, Acc.start _ _ _⟩
  case round =>
    obtain ⟨k, E, c', hk, hkm, rfl, rfl, hacc⟩ := hrel
    have HA := Lib.hid hacc
    by_cases hlt : k < n
    · have i1 : (k : Int) < (n : Int) := by omega
      by_cases hlt2 : k < m
      · have i2 : (k : Int) < (m : Int) := by omega
        have hkq : k < xs.length := by have := HN.out; omega
        have HS := Lib.hid (HSN.out k hkq)
        obtain ⟨bx, ox, rfl, hc⟩ := row_ints (HR.out.below hacc.ext (Nat.le_refl _)) hkq
        have hxx := HX.out _ (List.getElem_mem hkq)
        have hgd : xs.getD k 0 = xs[k] := by rw [List.getD_eq_getElem?_getD, List.getElem?_eq_getElem hkq]; rfl
        rw [hgd] at hc
        generalize ((xs.take k).map (fun x => aroundF x 11)).map (Value.int .i64) = out at *
        clear hgd
        generalize xs[k] = x at *
        obtain ⟨hx1, hx2⟩ := hxx
        have i3 : (0 : Int) ≤ (k : Int) := by omega
        clear hacc
        go_wp2_with (first
          | (go_at_call 25; refine (around _ _ _ hx1 hx2 (by omega) (by omega)).mono ?_; rintro e w5 ⟨rfl, rfl⟩)
          | (at_builtin; refine wp_app ei_int rfl (.tmp 18) (.tmp 24) rfl w _ E c' k _ rfl HA.out [.int .i64 (aroundF x 11)] 1 1 rfl rfl (by simp [Value.oneCell']) (by omega) (by unfold maxLen; omega) ?_; intro A1 c1 w6 hA6 _ _))
        exact ⟨⟨k + 1, A1, c1, by omega, by omega, by go_num, rfl, by rw [HS.out]; exact hA6⟩, by simp [intOf]; omega⟩
      · have i2 : ¬ ((k : Int) < (m : Int)) := by omega
        obtain ⟨h1, h2⟩ := HEND.out k (by have := HN.out; omega) hkm (.inr (by omega))
        have HE1 := Lib.hid h1
        have HE2 := Lib.hid h2
        clear h1 h2 hacc
        go_wp2
        go_ret
        exact ⟨E, c', by rw [HE2.out]; first | done | rfl, by rw [HE2.out, HE1.out]; exact HA.out⟩
    · have i1 : ¬ ((k : Int) < (n : Int)) := by omega
      obtain ⟨h1, h2⟩ := HEND.out k (by have := HN.out; omega) hkm (.inl (by have := HN.out; omega))
      have HE1 := Lib.hid h1
      have HE2 := Lib.hid h2
      clear h1 h2 hacc
      go_wp2
      go_ret
      exact ⟨E, c', by rw [HE2.out]; first | done | rfl, by rw [HE2.out, HE1.out]; exact HA.out⟩
theorem boxes2_ (w : World) (T U : TypeId) (xs ys : List Value) : Box ((w.alloc (.cells xs.toArray T)).alloc (.cells ys.toArray U)) w.heap.size T xs ∧ Box ((w.alloc (.cells xs.toArray T)).alloc (.cells ys.toArray U)) (w.heap.size + 1) U ys ∧ Ext w ((w.alloc (.cells xs.toArray T)).alloc (.cells ys.toArray U)) := by
  have b1 := (Box.new w T xs).alloc (.cells ys.toArray U)
  have c1 := Box.new (w.alloc (.cells xs.toArray T)) U ys
  have hs1 : (w.alloc (.cells xs.toArray T)).heap.size = w.heap.size + 1 := by simp
  rw [hs1] at c1
  exact ⟨b1, c1, Ext.alloc_ (Ext.alloc_ (Ext.refl w) _) _⟩
theorem ten_cases {a : Int} (h0 : 0 ≤ a) (h9 : a ≤ 9) : a = 0 ∨ a = 1 ∨ a = 2 ∨ a = 3 ∨ a = 4 ∨ a = 5 ∨ a = 6 ∨ a = 7 ∨ a = 8 ∨ a = 9 := by omega
set_option maxHeartbeats 2000000 in
theorem decimal_1 (a : Int) (w : World) (h0 : 0 ≤ a) (h9 : a ≤ 9) : Calls Tryz.prog 67 #[.int .i64 a] w fun e w' => e = .returned (.string ⟨(atB a).toArray⟩) ∧ Ext w w' := by
  rcases ten_cases h0 h9 with rfl | rfl | rfl | rfl | rfl | rfl | rfl | rfl | rfl | rfl
  all_goals
    have hl := run_lit1 w
    go_enter Tryz.func67, Tryz.ntmps67
    go_wp2
    go_ret
    exact ⟨by first | rfl | (simp [hl]; rfl) | simp [hl, atB], Ext.alloc_ (Ext.refl _) _⟩
theorem infoC18 : (Tryz.prog.info? 67).map (·.size) = some 2 := by kernel_rfl
theorem enc_ten : Utf8.encode ((({ data := #[48, 49, 50, 51, 52, 53, 54, 55, 56, 57] } : ByteArray)[0]).toNat : Int) = ⟨#[48]⟩ ∧ Utf8.encode ((({ data := #[48, 49, 50, 51, 52, 53, 54, 55, 56, 57] } : ByteArray)[1]).toNat : Int) = ⟨#[49]⟩ ∧ Utf8.encode ((({ data := #[48, 49, 50, 51, 52, 53, 54, 55, 56, 57] } : ByteArray)[2]).toNat : Int) = ⟨#[50]⟩ ∧ Utf8.encode ((({ data := #[48, 49, 50, 51, 52, 53, 54, 55, 56, 57] } : ByteArray)[3]).toNat : Int) = ⟨#[51]⟩ ∧ Utf8.encode ((({ data := #[48, 49, 50, 51, 52, 53, 54, 55, 56, 57] } : ByteArray)[4]).toNat : Int) = ⟨#[52]⟩ ∧ Utf8.encode ((({ data := #[48, 49, 50, 51, 52, 53, 54, 55, 56, 57] } : ByteArray)[5]).toNat : Int) = ⟨#[53]⟩ ∧ Utf8.encode ((({ data := #[48, 49, 50, 51, 52, 53, 54, 55, 56, 57] } : ByteArray)[6]).toNat : Int) = ⟨#[54]⟩ ∧ Utf8.encode ((({ data := #[48, 49, 50, 51, 52, 53, 54, 55, 56, 57] } : ByteArray)[7]).toNat : Int) = ⟨#[55]⟩ ∧ Utf8.encode ((({ data := #[48, 49, 50, 51, 52, 53, 54, 55, 56, 57] } : ByteArray)[8]).toNat : Int) = ⟨#[56]⟩ ∧ Utf8.encode ((({ data := #[48, 49, 50, 51, 52, 53, 54, 55, 56, 57] } : ByteArray)[9]).toNat : Int) = ⟨#[57]⟩ := ⟨by kernel_rfl, by kernel_rfl, by kernel_rfl, by kernel_rfl, by kernel_rfl, by kernel_rfl, by kernel_rfl, by kernel_rfl, by kernel_rfl, by kernel_rfl⟩
set_option maxHeartbeats 8000000 in
set_option maxRecDepth 100000 in
theorem paste_text (neg : Bool) (A : Option Addr) (n c : Nat) (ts : List Int) (w : World) (hr : Row w A (ts.map (Value.int .i64))) (hn : ts.length = n) (hl : n ≤ 10000) (hb : ∀ a ∈ ts, 0 ≤ a ∧ a ≤ 10) :
    Calls Tryz.prog 33 #[.agg ([.bool neg, .slice A n c] : List Value).toArray] w fun e w' => e = .returned (.string ⟨(textC neg ts).toArray⟩) ∧ Ext w w' := by
  have b1 := Box.new w 47 [.bool neg, .slice A n c]
  have hx1 : Ext w (w.alloc (.cells ([.bool neg, .slice A n c] : List Value).toArray 47)) := Ext.alloc_ (Ext.refl w) _
  have HX1 := Lib.hid hx1
  have HR := Lib.hid (hr.below hx1 (Nat.le_refl _))
  have HN := Lib.hid hn
  have HBD := Lib.hid hb
  have HSN : Hid (∀ k (hk : k < ts.length), textC neg (ts.take (k + 1)) = textC neg (ts.take k) ++ atB ts[k]) := Lib.hid fun k hk => textC_snoc neg ts hk
  have HLE : Hid (∀ k, (textC neg (ts.take k)).length ≤ k + 1) := Lib.hid fun k => Nat.le_trans (textC_len neg _) (by rw [List.length_take]; omega)
  have HALL : Hid (ts.take n = ts) := Lib.hid (by rw [← hn, List.take_length])
  have q0 := b1.cell (j := 0) (v := .bool neg) rfl
  have q1 := b1.cell (j := 1) (v := .slice A n c) rfl
  clear hr hn hb b1 hx1
  go_enter Tryz.func33, Tryz.ntmps33
  go_upto_region 1 with fail
  change Code.wp _ _ _ _ (w.alloc (.cells ([.bool neg, .slice A n c] : List Value).toArray 47))
  generalize w.alloc (.cells ([.bool neg, .slice A n c] : List Value).toArray 47) = w1 at *
  cases neg
  · skip
    go_upto_region 4 with fail
    go_wp2
    go_loop [3, 11] (fun s i => ∃ k : Nat, k ≤ n ∧ i = .int .i64 k ∧ s = .string ⟨(textC false (ts.take k)).toArray⟩) (fun _ i => n - (intOf i).toNat)
    case atStart => exact ⟨0, Nat.zero_le _, rfl, rfl⟩
    case round =>
      obtain ⟨k, hk, rfl, rfl⟩ := hrel
      by_cases hlt : k < n
      · have hkl : k < ts.length := by have := HN.out; omega
        obtain ⟨bx, ox, hA0, hc⟩ := row_int HR.out hkl
        have HS := Lib.hid (HSN.out k hkl)
        have hle := HLE.out k
        have hbd := HBD.out _ (List.getElem_mem hkl)
        subst hA0
        have i1 : (k : Int) < (n : Int) := by omega
        have i2 : (0 : Int) ≤ (k : Int) := by omega
        generalize textC false (ts.take k) = o at *
        generalize ts[k] = x at *
        have hap : ∀ m, (⟨o.toArray⟩ : ByteArray) ++ ⟨m.toArray⟩ = ⟨(o ++ m).toArray⟩ := fun m => app_mk o m
        have j2 : (9223372036854775807 < o.length + 1) = False := eq_false (by omega)
        by_cases h10 : x = 10
        · have HS2 : Hid (textC false (ts.take (k + 1)) = o ++ [46]) := Lib.hid (by rw [HS.out, h10]; rfl)
          subst h10
          clear HS hbd
          go_wp2
          go_round
          case rel => exact ⟨k + 1, by omega, by go_num, by rw [HS2.out]; first | done | rfl | exact congrArg Value.string (hap [46])⟩
          case measure => simp [intOf]; omega
        · have j1 : (x == 10) = false := by simpa using h10
          obtain ⟨e0, e1, e2, e3, e4, e5, e6, e7, e8, e9⟩ := enc_ten
          rcases ten_cases hbd.1 (by omega) with rfl | rfl | rfl | rfl | rfl | rfl | rfl | rfl | rfl | rfl
          all_goals
            clear hbd h10 j1
            go_wp2
            go_round
            case rel => exact ⟨k + 1, by omega, by go_num, by rw [HS.out]; rfl⟩
            case measure => simp [intOf]; omega
      · have e : k = n := by omega
        subst e
        have i1 : ¬ ((k : Int) < (k : Int)) := by omega
        rw [HALL.out]
        go_wp2
        go_ret
        exact ⟨rfl, HX1.out⟩
  · skip
    go_upto_region 4 with fail
    go_wp2
    go_loop [3, 11] (fun s i => ∃ k : Nat, k ≤ n ∧ i = .int .i64 k ∧ s = .string ⟨(textC true (ts.take k)).toArray⟩) (fun _ i => n - (intOf i).toNat)
    case atStart => exact ⟨0, Nat.zero_le _, rfl, rfl⟩
    case round =>
      obtain ⟨k, hk, rfl, rfl⟩ := hrel
      by_cases hlt : k < n
      · have hkl : k < ts.length := by have := HN.out; omega
        obtain ⟨bx, ox, hA0, hc⟩ := row_int HR.out hkl
        have HS := Lib.hid (HSN.out k hkl)
        have hle := HLE.out k
        have hbd := HBD.out _ (List.getElem_mem hkl)
        subst hA0
        have i1 : (k : Int) < (n : Int) := by omega
        have i2 : (0 : Int) ≤ (k : Int) := by omega
        generalize textC true (ts.take k) = o at *
        generalize ts[k] = x at *
        have hap : ∀ m, (⟨o.toArray⟩ : ByteArray) ++ ⟨m.toArray⟩ = ⟨(o ++ m).toArray⟩ := fun m => app_mk o m
        have j2 : (9223372036854775807 < o.length + 1) = False := eq_false (by omega)
        by_cases h10 : x = 10
        · have HS2 : Hid (textC true (ts.take (k + 1)) = o ++ [46]) := Lib.hid (by rw [HS.out, h10]; rfl)
          subst h10
          clear HS hbd
          go_wp2
          go_round
          case rel => exact ⟨k + 1, by omega, by go_num, by rw [HS2.out]; first | done | rfl | exact congrArg Value.string (hap [46])⟩
          case measure => simp [intOf]; omega
        · have j1 : (x == 10) = false := by simpa using h10
          obtain ⟨e0, e1, e2, e3, e4, e5, e6, e7, e8, e9⟩ := enc_ten
          rcases ten_cases hbd.1 (by omega) with rfl | rfl | rfl | rfl | rfl | rfl | rfl | rfl | rfl | rfl
          all_goals
            clear hbd h10 j1
            go_wp2
            go_round
            case rel => exact ⟨k + 1, by omega, by go_num, by rw [HS.out]; rfl⟩
            case measure => simp [intOf]; omega
      · have e : k = n := by omega
        subst e
        have i1 : ¬ ((k : Int) < (k : Int)) := by omega
        rw [HALL.out]
        go_wp2
        go_ret
        exact ⟨rfl, HX1.out⟩
set_option maxHeartbeats 8000000 in
set_option maxRecDepth 100000 in
theorem ref18_text (neg : Bool) (A : Option Addr) (n c : Nat) (ts : List Int) (w : World) (hr : Row w A (ts.map (Value.int .i64))) (hn : ts.length = n) (hl : n ≤ 10000) (hb : ∀ a ∈ ts, 0 ≤ a ∧ a ≤ 10) :
    Calls Tryz.prog 34 #[.agg ([.bool neg, .slice A n c] : List Value).toArray] w fun e w' => e = .returned (.string ⟨(textC neg ts).toArray⟩) ∧ Ext w w' := by
  have b1 := Box.new w 67 [.bool neg, .slice A n c]
  have hx1 : Ext w (w.alloc (.cells ([.bool neg, .slice A n c] : List Value).toArray 67)) := Ext.alloc_ (Ext.refl w) _
  have HX1 := Lib.hid hx1
  have HR := Lib.hid (hr.below hx1 (Nat.le_refl _))
  have HN := Lib.hid hn
  have HBD := Lib.hid hb
  have HSN : Hid (∀ k (hk : k < ts.length), textC neg (ts.take (k + 1)) = textC neg (ts.take k) ++ atB ts[k]) := Lib.hid fun k hk => textC_snoc neg ts hk
  have HLE : Hid (∀ k, (textC neg (ts.take k)).length ≤ k + 1) := Lib.hid fun k => Nat.le_trans (textC_len neg _) (by rw [List.length_take]; omega)
  have HALL : Hid (ts.take n = ts) := Lib.hid (by rw [← hn, List.take_length])
  have q0 := b1.cell (j := 0) (v := .bool neg) rfl
  have HQ1 := Lib.hid (b1.cell (j := 1) (v := .slice A n c) rfl)
  clear hr hn hb b1 hx1
  go_enter Tryz.func34, Tryz.ntmps34
  go_upto_region 1 with fail
  change Code.wp _ _ _ _ (w.alloc (.cells ([.bool neg, .slice A n c] : List Value).toArray 67))
  generalize w.alloc (.cells ([.bool neg, .slice A n c] : List Value).toArray 67) = w1 at *
  generalize hcb : w.heap.size = cb at *
  clear hcb
  cases neg
  · go_upto_region 4 with fail
    go_wp2
    go_loopw [3, 4] (fun s i wr => ∃ k : Nat, k ≤ n ∧ i = .int .i64 k ∧ s = .string ⟨(textC false (ts.take k)).toArray⟩ ∧ Ext w1 wr) (fun _ i _ => n - (intOf i).toNat)
    case atStart => exact ⟨0, Nat.zero_le _, rfl, rfl, Ext.refl _⟩
    case round =>
      obtain ⟨k, hk, rfl, rfl, hx⟩ := hrel
      have q1 := Ext.cell_ hx HQ1.out
      by_cases hlt : k < n
      · have hkl : k < ts.length := by have := HN.out; omega
        obtain ⟨bx, ox, hA0, hc⟩ := row_int (HR.out.below hx (Nat.le_refl _)) hkl
        have HS := Lib.hid (HSN.out k hkl)
        have hle := HLE.out k
        have hbd := HBD.out _ (List.getElem_mem hkl)
        subst hA0
        have i1 : (k : Int) < (n : Int) := by omega
        have i2 : (0 : Int) ≤ (k : Int) := by omega
        have HX := Lib.hid hx
        clear hx
        generalize textC false (ts.take k) = o at *
        generalize ts[k] = x at *
        have hap : ∀ m, (⟨o.toArray⟩ : ByteArray) ++ ⟨m.toArray⟩ = ⟨(o ++ m).toArray⟩ := fun m => app_mk o m
        by_cases h10 : x = 10
        · have HS2 : Hid (textC false (ts.take (k + 1)) = o ++ [46]) := Lib.hid (by rw [HS.out, h10]; rfl)
          have j2 : (9223372036854775807 < o.length + 1) = False := eq_false (by omega)
          subst h10
          clear HS hbd
          go_wp2
          go_roundw
          case rel => exact ⟨k + 1, by omega, by go_num, by rw [HS2.out]; first | done | rfl | exact congrArg Value.string (hap [46]), HX.out⟩
          case measure => simp [intOf]; omega
        · have j1 : (x == 10) = false := by simpa using h10
          have HD : Hid (∀ W, Calls Tryz.prog 67 #[.int .i64 x] W fun e w' => e = .returned (.string ⟨(atB x).toArray⟩) ∧ Ext W w') := Lib.hid fun W => decimal_1 x W hbd.1 (by omega)
          have hal := atB_len x
          generalize atB x = ab at *
          have HS2 : Hid (textC false (ts.take (k + 1)) = o ++ ab) := Lib.hid HS.out
          have j2 : (9223372036854775807 < o.length + ab.length) = False := eq_false (by omega)
          clear HS hbd h10
          go_wp2_with (go_at_call 67; with_reducible refine (HD.out _).mono ?_; rintro e w5 ⟨rfl, hx5⟩)
          go_roundw
          case rel => exact ⟨k + 1, by omega, by go_num, by rw [HS2.out]; first | done | rfl | exact congrArg Value.string (hap ab), HX.out.trans hx5⟩
          case measure => simp [intOf]; omega
      · have e : k = n := by omega
        subst e
        have i1 : ¬ ((k : Int) < (k : Int)) := by omega
        rw [HALL.out]
        go_wp2
        go_ret
        exact ⟨rfl, HX1.out.trans hx⟩
  · go_upto_region 4 with fail
    go_wp2
    go_loopw [3, 4] (fun s i wr => ∃ k : Nat, k ≤ n ∧ i = .int .i64 k ∧ s = .string ⟨(textC true (ts.take k)).toArray⟩ ∧ Ext w1 wr) (fun _ i _ => n - (intOf i).toNat)
    case atStart => exact ⟨0, Nat.zero_le _, rfl, rfl, Ext.refl _⟩
    case round =>
      obtain ⟨k, hk, rfl, rfl, hx⟩ := hrel
      have q1 := Ext.cell_ hx HQ1.out
      by_cases hlt : k < n
      · have hkl : k < ts.length := by have := HN.out; omega
        obtain ⟨bx, ox, hA0, hc⟩ := row_int (HR.out.below hx (Nat.le_refl _)) hkl
        have HS := Lib.hid (HSN.out k hkl)
        have hle := HLE.out k
        have hbd := HBD.out _ (List.getElem_mem hkl)
        subst hA0
        have i1 : (k : Int) < (n : Int) := by omega
        have i2 : (0 : Int) ≤ (k : Int) := by omega
        have HX := Lib.hid hx
        clear hx
        generalize textC true (ts.take k) = o at *
        generalize ts[k] = x at *
        have hap : ∀ m, (⟨o.toArray⟩ : ByteArray) ++ ⟨m.toArray⟩ = ⟨(o ++ m).toArray⟩ := fun m => app_mk o m
        by_cases h10 : x = 10
        · have HS2 : Hid (textC true (ts.take (k + 1)) = o ++ [46]) := Lib.hid (by rw [HS.out, h10]; rfl)
          have j2 : (9223372036854775807 < o.length + 1) = False := eq_false (by omega)
          subst h10
          clear HS hbd
          go_wp2
          go_roundw
          case rel => exact ⟨k + 1, by omega, by go_num, by rw [HS2.out]; first | done | rfl | exact congrArg Value.string (hap [46]), HX.out⟩
          case measure => simp [intOf]; omega
        · have j1 : (x == 10) = false := by simpa using h10
          have HD : Hid (∀ W, Calls Tryz.prog 67 #[.int .i64 x] W fun e w' => e = .returned (.string ⟨(atB x).toArray⟩) ∧ Ext W w') := Lib.hid fun W => decimal_1 x W hbd.1 (by omega)
          have hal := atB_len x
          generalize atB x = ab at *
          have HS2 : Hid (textC true (ts.take (k + 1)) = o ++ ab) := Lib.hid HS.out
          have j2 : (9223372036854775807 < o.length + ab.length) = False := eq_false (by omega)
          clear HS hbd h10
          go_wp2_with (go_at_call 67; with_reducible refine (HD.out _).mono ?_; rintro e w5 ⟨rfl, hx5⟩)
          go_roundw
          case rel => exact ⟨k + 1, by omega, by go_num, by rw [HS2.out]; first | done | rfl | exact congrArg Value.string (hap ab), HX.out.trans hx5⟩
          case measure => simp [intOf]; omega
      · have e : k = n := by omega
        subst e
        have i1 : ¬ ((k : Int) < (k : Int)) := by omega
        rw [HALL.out]
        go_wp2
        go_ret
        exact ⟨rfl, HX1.out.trans hx⟩
theorem clip_eq (a b : Bool) (xs ys : List Int) : (decide (xs = ys) && (a == b)) = decide (a = b ∧ xs = ys) := by
  rw [Bool.eq_iff_iff]
  simp only [Bool.and_eq_true, decide_eq_true_eq, beq_iff_eq]
  exact ⟨fun h => ⟨h.2, h.1⟩, fun h => ⟨h.2, h.1⟩⟩
set_option maxHeartbeats 4000000 in
theorem paste_same (a b : Bool) (A B : Option Addr) (c d : Nat) (xs ys : List Int) (w : World) (hx : Row w A (xs.map (Value.int .i64))) (hy : Row w B (ys.map (Value.int .i64))) (h1 : xs.length ≤ 10000) (h2 : ys.length ≤ 10000) :
    Calls Tryz.prog 35 #[.agg ([.bool a, .slice A xs.length c] : List Value).toArray, .agg ([.bool b, .slice B ys.length d] : List Value).toArray] w fun e w' => e = .returned (.bool (decide (a = b ∧ xs = ys))) ∧ Ext w w' := by
  have HE := Lib.hid (clip_eq a b xs ys)
  generalize decide (a = b ∧ xs = ys) = res at *
  obtain ⟨b1, c1, hx1⟩ := boxes2_ w 47 47 [.bool a, .slice A xs.length c] [.bool b, .slice B ys.length d]
  have HX1 := Lib.hid hx1
  have HS := Lib.hid (equal_i A B c d xs ys _ (hx.below hx1 (Nat.le_refl _)) (hy.below hx1 (Nat.le_refl _)) (by omega) (by omega))
  have p0 := b1.cell (j := 0) (v := .bool a) rfl
  have p1 := b1.cell (j := 1) (v := .slice A xs.length c) rfl
  have q0 := c1.cell (j := 0) (v := .bool b) rfl
  have q1 := c1.cell (j := 1) (v := .slice B ys.length d) rfl
  clear b1 c1 hx1 hx hy
  go_enter Tryz.func35, Tryz.ntmps35
  go_upto_region 1 with fail
  change Code.wp _ _ _ _ ((w.alloc (.cells ([.bool a, .slice A xs.length c] : List Value).toArray 47)).alloc (.cells ([.bool b, .slice B ys.length d] : List Value).toArray 47))
  generalize (w.alloc (.cells ([.bool a, .slice A xs.length c] : List Value).toArray 47)).alloc (.cells ([.bool b, .slice B ys.length d] : List Value).toArray 47) = w1 at *
  generalize decide (xs = ys) = t1 at *
  cases hab : (a == b)
  · rw [hab] at HE
    go_wp2
    go_ret
    exact ⟨ret_bool (by rw [← HE.out]; simp), HX1.out⟩
  · rw [hab] at HE
    go_wp2_with (go_at_call 68; with_reducible refine HS.out.mono ?_; rintro e w2 ⟨rfl, hx2⟩)
    go_ret
    exact ⟨ret_bool (by rw [← HE.out]; simp), HX1.out.trans hx2⟩
set_option maxHeartbeats 4000000 in
theorem ref18_same (a b : Bool) (A B : Option Addr) (c d : Nat) (xs ys : List Int) (w : World) (hx : Row w A (xs.map (Value.int .i64))) (hy : Row w B (ys.map (Value.int .i64))) (h1 : xs.length ≤ 10000) (h2 : ys.length ≤ 10000) :
    Calls Tryz.prog 36 #[.agg ([.bool a, .slice A xs.length c] : List Value).toArray, .agg ([.bool b, .slice B ys.length d] : List Value).toArray] w fun e w' => e = .returned (.bool (decide (a = b ∧ xs = ys))) ∧ Ext w w' := by
  have HE := Lib.hid (clip_eq a b xs ys)
  generalize decide (a = b ∧ xs = ys) = res at *
  obtain ⟨b1, c1, hx1⟩ := boxes2_ w 67 67 [.bool a, .slice A xs.length c] [.bool b, .slice B ys.length d]
  have HX1 := Lib.hid hx1
  have HS := Lib.hid (same A B c d xs ys _ (hx.below hx1 (Nat.le_refl _)) (hy.below hx1 (Nat.le_refl _)) (by unfold maxLen; omega) (by unfold maxLen; omega))
  have p1 := b1.cell (j := 1) (v := .slice A xs.length c) rfl
  have q1 := c1.cell (j := 1) (v := .slice B ys.length d) rfl
  have HB := Lib.hid b1
  have HC := Lib.hid c1
  clear b1 c1 hx1 hx hy
  go_enter Tryz.func36, Tryz.ntmps36
  go_upto_region 1 with fail
  change Code.wp _ _ _ _ ((w.alloc (.cells ([.bool a, .slice A xs.length c] : List Value).toArray 67)).alloc (.cells ([.bool b, .slice B ys.length d] : List Value).toArray 67))
  generalize (w.alloc (.cells ([.bool a, .slice A xs.length c] : List Value).toArray 67)).alloc (.cells ([.bool b, .slice B ys.length d] : List Value).toArray 67) = w1 at *
  generalize decide (xs = ys) = t1 at *
  go_upto_region 2 with (go_at_call 24; with_reducible refine HS.out.mono ?_; rintro e w2 ⟨rfl, hx2⟩)
  have p0 := (HB.out.ext hx2).cell (j := 0) (v := .bool a) rfl
  have q0 := (HC.out.ext hx2).cell (j := 0) (v := .bool b) rfl
  cases t1
  · go_wp2
    go_ret
    exact ⟨ret_bool (by rw [← HE.out]; simp), HX1.out.trans hx2⟩
  · go_wp2
    go_ret
    exact ⟨ret_bool (by rw [← HE.out]; simp), HX1.out.trans hx2⟩
end Go.Proofs.YtaobgbhgckndkaaGreatDoor.Loc
