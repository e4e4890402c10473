/- Walks: the document's Sign and Affix. -/
import Derived.Test.YtdkjkbbibdppoaaGreatDoorLRef2
import Derived.Test.YtdkjkbbibdppoaaGreatDoorLAff
namespace Go.Proofs.YtdkjkbbibdppoaaGreatDoor.Loc
open Go.RowKit Utf All Small Strs Build EncC Pat Cls Dec Go.Proofs.YtdkjkbbibdppoaaGreatDoor.Sys
set_option linter.unusedVariables false
set_option linter.unusedSimpArgs false

theorem zero_names : ∀ s ∈ names, 0 ≤ zeroZ s := by decide +kernel
theorem dig_eq {s : ByteArray} (h : s ∈ names) {d : Int} (h0 : 0 ≤ d) (h9 : d < 10) : digB s d = encB (zeroZ s + d) := by
  have hz := zero_names s h
  unfold digB digE
  rw [if_neg (show ¬ zeroZ s < 0 by omega), if_neg (show ¬ (d < 0 ∨ 10 ≤ d) by omega), if_pos rfl]
theorem dB_at (r : Rec) (p : Pt) {k : Nat} (h : k < 10) : (dB (locOf r p)).getD k ByteArray.empty = ⟨(digB ⟨r.system.toArray⟩ (k : Int)).toArray⟩ := by
  unfold dB
  rw [List.getD_eq_getElem?_getD, List.getElem?_map]
  show ((digs r)[k]?.map _).getD _ = _
  rw [List.getElem?_eq_getElem (by rw [digs_len]; exact h), digs_at r h]; rfl
theorem dB_len (r : Rec) (p : Pt) : (dB (locOf r p)).length = 10 := by unfold dB; rw [List.length_map]; exact digs_len r
set_option maxHeartbeats 8000000 in
set_option maxRecDepth 100000 in
theorem ref_sign (A B C D : Option Addr) (c d a b : Nat) (r : Rec) (p : Pt) (s : ByteArray) (w : World) (h : Both r p) :
    Calls Tryz.prog 35 #[.agg (refLV A B C D c d a b r p).toArray, .string s] w fun e w' => e = .returned (.int .i64 (signZ (locOf r p) s)) ∧ Ext w w' := by
  have hsys := h.may.sys
  have HD : Hid (∀ k : Nat, k < 10 → ∀ W, Calls Tryz.prog 32 #[.string ⟨r.system.toArray⟩, .int .i64 (k : Int)] W fun e w' => e = .returned (.string ((dB (locOf r p)).getD k ByteArray.empty)) ∧ Ext W w') := Lib.hid fun k hk W => by
    have hd := ref_digit ⟨r.system.toArray⟩ (k : Int) W (by omega) (by omega)
    rw [dB_at r p hk, dig_eq hsys (by omega) (by omega)]; exact hd
  have HE : Hid (signZ (locOf r p) s = if 0 ≤ Lib.idxOfS (dB (locOf r p)) s then Lib.idxOfS (dB (locOf r p)) s else if s = ⟨r.decimal.toArray⟩ then 10 else if grpZ (locOf r p) = true ∧ s = ⟨r.group.toArray⟩ then 11 else if s = ⟨r.minus.toArray⟩ then 12 else -1) := Lib.hid rfl
  have HG : Hid (grpZ (locOf r p) = decide (0 < p.num.prim)) := Lib.hid rfl
  have HT : Hid ((dB (locOf r p)).take 10 = dB (locOf r p)) := Lib.hid (List.take_of_length_le (by rw [dB_len]; exact Nat.le_refl _))
  have HL := Lib.hid (dB_len r p)
  have b1 := Box.new w 61 (refLV A B C D c d a b r p)
  have hx1 : Ext w (w.alloc (.cells (refLV A B C D c d a b r p).toArray 61)) := Ext.alloc_ (Ext.refl w) _
  have c2 := b1.cell (j := 2) (v := .string ⟨r.system.toArray⟩) rfl
  have c3 := b1.cell (j := 3) (v := .string ⟨r.decimal.toArray⟩) rfl
  have c4 := b1.cell (j := 4) (v := .string ⟨r.group.toArray⟩) rfl
  have c5 := b1.cell (j := 5) (v := .string ⟨r.minus.toArray⟩) rfl
  have c12 := b1.cell (j := 12) (v := .int .i64 p.num.prim) rfl
  have HX1 := Lib.hid hx1
  clear b1 hx1 h hsys
  generalize signZ (locOf r p) s = sg at *
  go_enter Tryz.func35, Tryz.ntmps35
  go_upto_region 1 with fail
  change Code.wp _ _ _ _ (w.alloc (.cells (refLV A B C D c d a b r p).toArray 61))
  generalize w.alloc (.cells (refLV A B C D c d a b r p).toArray 61) = w1 at *
  generalize hlb : w.heap.size = lb at *
  clear hlb
  generalize grpZ (locOf r p) = gz at *
  generalize dB (locOf r p) = DS at *
  generalize (⟨r.system.toArray⟩ : ByteArray) = sy at *
  generalize (⟨r.decimal.toArray⟩ : ByteArray) = s1 at *
  generalize (⟨r.group.toArray⟩ : ByteArray) = s2 at *
  generalize (⟨r.minus.toArray⟩ : ByteArray) = s3 at *
  generalize p.num.prim = pr at *
  go_wp2
  go_loopw [5] (fun i wr => ∃ k : Nat, k ≤ 10 ∧ i = .int .i64 k ∧ Ext w1 wr ∧ Hid (∀ j, j < k → DS.getD j ByteArray.empty ≠ s)) (fun i _ => 10 - (intOf i).toNat)
  case atStart => exact ⟨0, by omega, rfl, Ext.refl _, Lib.hid (fun j hj => absurd hj (Nat.not_lt_zero _))⟩
  case round =>
    obtain ⟨k, hk, rfl, hx, HK⟩ := hrel
    by_cases hlt : k < 10
    · have i1 : (k : Int) < 10 := by omega
      have c2 := Ext.cell_ hx c2
      have hb := beq_str (DS.getD k ByteArray.empty) s
      have HC := Lib.hid (HD.out k hlt wr)
      have HU : Hid (DS.getD k ByteArray.empty = s → sg = (k : Int)) := Lib.hid fun he => by
        have hi := Lib.idxOfS_hit DS 10 k s hlt (by rw [HL.out]; exact Nat.le_refl _) he HK.out
        rw [HT.out] at hi
        rw [HE.out, hi, if_pos (by omega)]
      have HV : Hid (DS.getD k ByteArray.empty ≠ s → ∀ j, j < k + 1 → DS.getD j ByteArray.empty ≠ s) := Lib.hid fun hne j hj => by
        rcases (by omega : j < k ∨ j = k) with h | rfl
        · exact HK.out j h
        · exact hne
      generalize DS.getD k ByteArray.empty = u at *
      have HX := Lib.hid hx
      clear hx
      by_cases he : u = s
      · rw [decide_eq_true he] at hb
        have HS := Lib.hid (HU.out he)
        clear he HU HV
        go_wp2_with (go_at_call 32; with_reducible refine HC.out.mono ?_; rintro e w2 ⟨rfl, hx2⟩)
        go_ret
        exact ⟨by rw [HS.out]; rfl, HX1.out.trans (HX.out.trans hx2)⟩
      · rw [decide_eq_false he] at hb
        have HN := Lib.hid (HV.out he)
        clear he HU HV
        go_wp2_with (go_at_call 32; with_reducible refine HC.out.mono ?_; rintro e w2 ⟨rfl, hx2⟩)
        go_roundw
        case rel => exact ⟨k + 1, by omega, by go_num, HX.out.trans hx2, HN⟩
        case measure => simp [intOf]; omega
    · have e : k = 10 := by omega
      subst e
      have i1 : ¬ ((10 : Int) < 10) := by omega
      have hmiss := Lib.idxOfS_miss DS 10 s HK.out
      rw [HT.out] at hmiss
      have HE2 : Hid (sg = if s = s1 then 10 else if gz = true ∧ s = s2 then 11 else if s = s3 then 12 else -1) := Lib.hid (by rw [HE.out, hmiss, if_neg (by omega)])
      have c3 := Ext.cell_ hx c3
      have c4 := Ext.cell_ hx c4
      have c5 := Ext.cell_ hx c5
      have c12 := Ext.cell_ hx c12
      have b1 := beq_str s s1
      have b2 := beq_str s s2
      have b3 := beq_str s s3
      have HX := Lib.hid (HX1.out.trans hx)
      have hgz := HG.out
      clear HE HT HL HD hmiss hx HK c2 HG
      by_cases h1 : s = s1
      · rw [decide_eq_true h1] at b1
        have HS : Hid (sg = 10) := Lib.hid (by rw [HE2.out, if_pos h1])
        clear h1 b2 b3
        go_wp2
        go_ret
        exact ⟨by rw [HS.out]; rfl, HX.out⟩
      · rw [decide_eq_false h1] at b1
        have HE3 : Hid (sg = if gz = true ∧ s = s2 then 11 else if s = s3 then 12 else -1) := Lib.hid (by rw [HE2.out, if_neg h1])
        clear h1 HE2
        by_cases hp : 0 < pr
        · have hgt : pr > 0 := hp
          rw [decide_eq_true hp] at hgz
          subst hgz
          by_cases h2 : s = s2
          · rw [decide_eq_true h2] at b2
            have HS : Hid (sg = 11) := Lib.hid (by rw [HE3.out, if_pos ⟨rfl, h2⟩])
            clear h2 b3
            go_wp2
            go_ret
            exact ⟨by rw [HS.out]; rfl, HX.out⟩
          · rw [decide_eq_false h2] at b2
            have HE4 : Hid (sg = if s = s3 then 12 else -1) := Lib.hid (by rw [HE3.out, if_neg (fun h => h2 h.2)])
            clear h2 HE3
            by_cases h3 : s = s3
            · rw [decide_eq_true h3] at b3
              have HS : Hid (sg = 12) := Lib.hid (by rw [HE4.out, if_pos h3])
              clear h3
              go_wp2
              go_ret
              exact ⟨by rw [HS.out]; rfl, HX.out⟩
            · rw [decide_eq_false h3] at b3
              have HS : Hid (sg = -1) := Lib.hid (by rw [HE4.out, if_neg h3])
              clear h3
              go_wp2
              go_ret
              exact ⟨by rw [HS.out]; rfl, HX.out⟩
        · have hgt : ¬ pr > 0 := hp
          rw [decide_eq_false hp] at hgz
          subst hgz
          have HE4 : Hid (sg = if s = s3 then 12 else -1) := Lib.hid (by rw [HE3.out, if_neg (fun h => by cases h.1)])
          clear HE3 b2
          by_cases h3 : s = s3
          · rw [decide_eq_true h3] at b3
            have HS : Hid (sg = 12) := Lib.hid (by rw [HE4.out, if_pos h3])
            clear h3
            go_wp2
            go_ret
            exact ⟨by rw [HS.out]; rfl, HX.out⟩
          · rw [decide_eq_false h3] at b3
            have HS : Hid (sg = -1) := Lib.hid (by rw [HE4.out, if_neg h3])
            clear h3
            go_wp2
            go_ret
            exact ⟨by rw [HS.out]; rfl, HX.out⟩
end Go.Proofs.YtdkjkbbibdppoaaGreatDoor.Loc
