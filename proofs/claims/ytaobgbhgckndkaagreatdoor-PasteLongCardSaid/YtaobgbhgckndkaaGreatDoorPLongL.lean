/- The law PasteLong: a text of more than 4096 bytes is refused; one of 4096 is read. (Printed by wip/gen/law18.py.) -/
import Derived.Test.YtaobgbhgckndkaaGreatDoorJPaW
import Derived.Test.YtaobgbhgckndkaaGreatDoorJLocC
namespace Go.Proofs.YtaobgbhgckndkaaGreatDoor.Loc
open Go.RowKit Utf All Small Strs Build EncC Pat Cls Dec Go.Proofs.YtaobgbhgckndkaaGreatDoor.Sys
set_option linter.unusedVariables false
set_option linter.unusedSimpArgs false
theorem made_list (z : Value) (n : Nat) : madeCells #[z] n = (List.replicate n z).toArray := by
  refine Array.ext (by simp [madeCells]) fun i h1 h2 => ?_
  simp [madeCells, Nat.mod_one]
theorem fill_set (K k : Nat) (h : k < K) : (List.replicate k (Value.int .u8 55) ++ List.replicate (K - k) (Value.int .u8 0)).set k (.int .u8 55) = List.replicate (k + 1) (Value.int .u8 55) ++ List.replicate (K - (k + 1)) (Value.int .u8 0) := by
  obtain ⟨m, hm⟩ : ∃ m, K - k = m + 1 := ⟨K - k - 1, by omega⟩
  rw [hm, show K - (k + 1) = m by omega, List.set_append_right _ _ (by simp), List.length_replicate, Nat.sub_self, List.replicate_succ, List.set_cons_zero, List.replicate_succ', List.append_assoc]
  rfl
theorem one_set (K : Nat) (h : 0 < K) : (List.replicate K (Value.int .u8 55)).set 0 (.int .u8 1) = (((1 : Int) :: List.replicate (K - 1) 55).map (Value.int .u8)) := by
  obtain ⟨m, rfl⟩ : ∃ m, K = m + 1 := ⟨K - 1, by omega⟩
  rw [List.replicate_succ, List.set_cons_zero]
  simp
theorem bz_55 (K : Nat) : bytesZ (List.replicate K 55) = List.replicate K (55 : UInt8) := by
  unfold bytesZ; simp
theorem bz_1 (K : Nat) : bytesZ ((1 : Int) :: List.replicate K 55) = (1 : UInt8) :: List.replicate K (55 : UInt8) := by
  unfold bytesZ; simp
set_option maxHeartbeats 16000000 in
set_option maxRecDepth 1000000 in
theorem law_PasteLong (v0 v1 v2 v3 v4 v5 n : Int) (many : Int) (w : World) (h0 : i64 v0) (h1 : i64 v1) (h2 : i64 v2) (h3 : i64 v3) (h4 : i64 v4) (h5 : i64 v5) (hn : i64 n) (hm : i64 many) (hT : Tabs w) :
    Calls Tryz.prog 5 #[.agg ([.int .i64 v0, .int .i64 v1, .int .i64 v2, .int .i64 v3, .int .i64 v4, .int .i64 v5] : List Value).toArray, .int .i64 n, .int .i64 many] w fun e w' => e = .returned (.bool true) ∧ Below w.heap.size w w' := by
  obtain ⟨r, p, hK, hBG⟩ := begin18_ v0 v1 v2 v3 v4 v5 n h0 h1 h2 h3 h4 h5 hn
  obtain ⟨ak, hak, hak2⟩ : ∃ ak : Nat, aroundF many 11 = (ak : Int) ∧ ak ≤ 10 := by
    have hb := aroundF_bd many 11 (by omega)
    exact ⟨(aroundF many 11).toNat, by omega, by omega⟩
  have HAR : Hid (∀ W, Calls Tryz.prog 25 #[.int .i64 many, .int .i64 11] W fun e w' => e = .returned (.int .i64 (ak : Int)) ∧ W = w') := Lib.hid fun W => by
    have hh := around many 11 W hm.1 hm.2 (by omega) (by omega)
    rwa [hak] at hh
  have HK := Lib.hid hK.knd
  have HK7 := Lib.hid hK.no7
  have HBG := Lib.hid hBG
  have HTW := Lib.hid hT
  have HLV : Hid (∀ W, Ext w W → Calls Tryz.prog 19 #[] W fun e w' => e = .returned (.bool true) ∧ Ext W w') := Lib.hid fun W hW => lives18 W (HTW.out.ext hW)
  have b1 := Box.new w 23 [.int .i64 v0, .int .i64 v1, .int .i64 v2, .int .i64 v3, .int .i64 v4, .int .i64 v5]
  have hx1 : Ext w (w.alloc (.cells ([.int .i64 v0, .int .i64 v1, .int .i64 v2, .int .i64 v3, .int .i64 v4, .int .i64 v5] : List Value).toArray 23)) := Ext.alloc_ (Ext.refl w) _
  have HRG := Lib.hid b1.range
  have HX1 := Lib.hid hx1
  clear hK hBG hm hT b1 hx1 h0 h1 h2 h3 h4 h5 hn hak
  go_enter Tryz.func5, Tryz.ntmps5
  go_upto_region 1 with fail
  change Code.wp _ _ _ _ (w.alloc (.cells ([.int .i64 v0, .int .i64 v1, .int .i64 v2, .int .i64 v3, .int .i64 v4, .int .i64 v5] : List Value).toArray 23))
  generalize w.alloc (.cells ([.int .i64 v0, .int .i64 v1, .int .i64 v2, .int .i64 v3, .int .i64 v4, .int .i64 v5] : List Value).toArray 23) = w1 at *
  go_upto_region 2 with (first
    | (refine wpList_load_mid rfl 23 (.tmp 3) rfl w.heap.size 0 rfl [.int .i64 v0, .int .i64 v1, .int .i64 v2, .int .i64 v3, .int .i64 v4, .int .i64 v5] _ HRG.out Tryz.underlying23 rfl infoG ?_)
    | (go_at_call 14; with_reducible refine (HBG.out _ (HTW.out.ext HX1.out)).mono ?_; rintro e wb ⟨g, A, B, C, D, c, d, a, b, rfl, hlw, hxb⟩)
    | (refine wpList_store_fresh rfl 31 (.tmp 8) (.tmp 21) rfl ([.string ⟨r.name.toArray⟩, .string ⟨r.pattern.toArray⟩, .string ⟨r.system.toArray⟩, .string ⟨r.decimal.toArray⟩, .string ⟨r.group.toArray⟩, .string ⟨r.minus.toArray⟩, .string ⟨r.percent.toArray⟩, .string ⟨r.currency.toArray⟩, .slice A p.pre.length c, .slice B p.suf.length d, .slice C p.npre.length a, .slice D p.nsuf.length b, .int .i64 p.num.prim, .int .i64 p.num.sec, .int .i64 p.num.minInt, .int .i64 p.num.minFrac, .int .i64 p.num.maxFrac] : List Value).toArray 31 _ rfl rfl infoRL rfl (refL_one A B C D c d a b r p) ?_))
  have hxc : Ext wb (wb.alloc (.cells ([.string ⟨r.name.toArray⟩, .string ⟨r.pattern.toArray⟩, .string ⟨r.system.toArray⟩, .string ⟨r.decimal.toArray⟩, .string ⟨r.group.toArray⟩, .string ⟨r.minus.toArray⟩, .string ⟨r.percent.toArray⟩, .string ⟨r.currency.toArray⟩, .slice A p.pre.length c, .slice B p.suf.length d, .slice C p.npre.length a, .slice D p.nsuf.length b, .int .i64 p.num.prim, .int .i64 p.num.sec, .int .i64 p.num.minInt, .int .i64 p.num.minFrac, .int .i64 p.num.maxFrac] : List Value).toArray 31)) := Ext.alloc_ (Ext.refl _) _
  have HW := Lib.hid hlw
  have HXB := Lib.hid (HX1.out.trans (hxb.trans hxc))
  have HXS := Lib.hid (hxb.trans hxc)
  clear hlw hxb hxc
  generalize wb.alloc (.cells ([.string ⟨r.name.toArray⟩, .string ⟨r.pattern.toArray⟩, .string ⟨r.system.toArray⟩, .string ⟨r.decimal.toArray⟩, .string ⟨r.group.toArray⟩, .string ⟨r.minus.toArray⟩, .string ⟨r.percent.toArray⟩, .string ⟨r.currency.toArray⟩, .slice A p.pre.length c, .slice B p.suf.length d, .slice C p.npre.length a, .slice D p.nsuf.length b, .int .i64 p.num.prim, .int .i64 p.num.sec, .int .i64 p.num.minInt, .int .i64 p.num.minFrac, .int .i64 p.num.maxFrac] : List Value).toArray 31) = w3 at *
  generalize wb.heap.size = lb at *
  go_upto_region 5 with (go_at_call 25; with_reducible refine (HAR.out _).mono ?_; rintro e wz ⟨rfl, rfl⟩)
  obtain ⟨K, hK4⟩ : ∃ K : Nat, (4090 : Int) + (ak : Int) = (K : Int) := ⟨4090 + ak, by omega⟩
  rw [hK4]
  have hKl : 4090 ≤ K ∧ K ≤ 4100 := by omega
  obtain ⟨hKl1, hKl2⟩ := hKl
  have hmk : ∀ W, (Instr.makeSlice 55 (.int .i64 (K : Int)) (.int .i64 (K : Int))).run Tryz.prog W = .ok (.slice (some ⟨W.heap.size, 0, none⟩) K K) (W.alloc (.cells (Array.replicate K (Value.int .u8 0)) 5)) := fun W => by
    have hh := run_make_row' (P := Tryz.prog) 55 5 (.int .u8 0) 1 Tryz.underlying55 infoByte rfl .i64 .i64 K (by omega) (by omega) W
    rwa [made_list, List.toArray_replicate] at hh
  clear hK4 hak2 HAR
  go_upto_region 6 with fail
  have ha4 : Acc 5 1 w3 (w3.alloc (.cells (Array.replicate K (Value.int .u8 0)) 5)) (some ⟨w3.heap.size, 0, none⟩) K K (List.replicate K (Value.int .u8 0)) := by
    have hh := Acc.lit (Ext.refl w3) (List.replicate K (Value.int .u8 0)) K (by simp) (show K ≤ maxLen by unfold maxLen; omega) (e := 5) (sz := 1)
    rw [List.toArray_replicate] at hh
    exact hh
  have HA4 := Lib.hid ha4
  have HBBL : Hid (w3.heap.size < (w3.alloc (.cells (Array.replicate K (Value.int .u8 0)) 5)).heap.size) := Lib.hid (by simp)
  clear ha4 hmk
  generalize w3.alloc (.cells (Array.replicate K (Value.int .u8 0)) 5) = w4 at *
  generalize hbb : w3.heap.size = bb at *
  have HBB := Lib.hid hbb
  clear hbb
  go_wp2
  go_loopw [11] (fun i wr => ∃ k : Nat, k ≤ K ∧ i = .int .i64 k ∧ w4.heap.size ≤ wr.heap.size ∧ Acc 5 1 w3 wr (some ⟨bb, 0, none⟩) K K (List.replicate k (Value.int .u8 55) ++ List.replicate (K - k) (Value.int .u8 0))) (fun i _ => K - (intOf i).toNat)
  case atStart => exact ⟨0, Nat.zero_le _, rfl, Nat.le_refl _, HA4.out⟩
  case round =>
    obtain ⟨k, hk, rfl, hsz, hacc⟩ := hrel
    by_cases hlt : k < K
    · have i1 : (k : Int) < (K : Int) := by omega
      have i2 : (0 : Int) ≤ (k : Int) := by omega
      have hcell : wr.cell? ⟨bb, k, none⟩ = some (.int .u8 0) := hacc.row.cell00 (by rw [List.getElem?_append_right (by simp), List.length_replicate, Nat.sub_self, List.getElem?_replicate, if_pos (by omega)])
      have hfz := hacc.own.frozenAt k
      have hst := Acc.stored hacc k (.int .u8 55)
      rw [fill_set K k hlt] at hst
      have HST := Lib.hid hst
      have HSZ : Hid (w4.heap.size ≤ (wr.setCell ⟨bb, k, none⟩ (.int .u8 55)).heap.size) := Lib.hid (by simpa [World.setCell] using hsz)
      clear hst hacc
      go_wp2
      go_roundw
      case rel => exact ⟨k + 1, by omega, by go_num, HSZ.out, HST.out⟩
      case measure => simp [intOf]; omega
    · have e : k = K := by omega
      subst e
      have i1 : ¬ ((k : Int) < (k : Int)) := by omega
      have ha5 := hacc
      rw [Nat.sub_self, List.replicate_zero, List.append_nil] at ha5
      have HA5 := Lib.hid ha5
      have hrow : Row wr (some ⟨bb, 0, none⟩) ((List.replicate k (55 : Int)).map (Value.int .u8)) := by rw [List.map_replicate]; exact ha5.row
      have hcv := run_bytes_str wr (some ⟨bb, 0, none⟩) k (List.replicate k 55) hrow
      rw [List.length_replicate, bz_55] at hcv
      have hl55 : (List.replicate k (55 : UInt8)).length = k := List.length_replicate
      have HXA := Lib.hid (HXB.out.trans ha5.ext)
      have HR1 := Lib.hid ((HW.out.ext ha5.ext).read HK.out (HTW.out.ext HXA.out) (s := List.replicate k 55) (by rw [hl55]; omega))
      have HC1 : Hid (clF (locOf r p) (List.replicate k 55) = if 4096 < k then .error 3 else .ok (false, List.replicate k 7)) := Lib.hid (by
        by_cases hl : 4096 < k
        · rw [if_pos hl]; exact cl_long (by rw [hl55]; exact hl)
        · rw [if_neg hl]; exact sevs_cl HK.out.both HK7.out (by omega) (by omega))
      have HC2 : Hid (clF (locOf r p) ((1 : UInt8) :: List.replicate (k - 1) 55) = if 4096 < k then .error 3 else .error 2) := Lib.hid (by
        by_cases hl : 4096 < k
        · rw [if_pos hl]; exact cl_long (by rw [List.length_cons, List.length_replicate]; omega)
        · rw [if_neg hl]; exact ctl_cl HK.out.both (by omega))
      clear hrow ha5 hacc hl55
      generalize clF (locOf r p) (List.replicate k 55) = c1 at *
      generalize hrs : List.replicate k (55 : UInt8) = rs at *
      clear hrs
      go_upto_region 11 with (first
        | (go_at_call 22; with_reducible refine HR1.out.mono ?_; rintro e w6 ⟨Z, cz, rfl, hrZ, oZ, hx6⟩)
        | (refine wpList_store_fresh rfl 47 (.tmp 12) (.tmp 42) rfl ([.bool (clT c1).1, .slice Z (clT c1).2.length cz] : List Value).toArray 47 _ rfl rfl infoClip rfl (by simp [Value.oneCell']) ?_))
      have hb7 := Box.new w6 47 [.bool (clT c1).1, .slice Z (clT c1).2.length cz]
      have hx7 : Ext w6 (w6.alloc (.cells ([.bool (clT c1).1, .slice Z (clT c1).2.length cz] : List Value).toArray 47)) := Ext.alloc_ (Ext.refl _) _
      have ha7 := (HA5.out.step hx6).step hx7
      have hne : bb ≠ w6.heap.size := by have := hx6.size; have := HBBL.out; omega
      have hcell : (w6.alloc (.cells ([.bool (clT c1).1, .slice Z (clT c1).2.length cz] : List Value).toArray 47)).cell? ⟨bb, 0, none⟩ = some (.int .u8 55) := ha7.row.cell00 (by rw [List.getElem?_replicate, if_pos (by omega)])
      have hfz := ha7.own.frozenAt 0
      have hst := Acc.stored ha7 0 (.int .u8 1)
      rw [one_set k (by omega)] at hst
      have HST := Lib.hid hst
      have HB8 := Lib.hid (hb7.setCell1 bb (.int .u8 1) hne 0)
      clear hst ha7 hb7 hx6 hx7 hrZ oZ HR1 hcv HA5
      have i9 : (0 : Int) < (k : Int) := by omega
      generalize w6.alloc (.cells ([.bool (clT c1).1, .slice Z (clT c1).2.length cz] : List Value).toArray 47) = w7 at *
      generalize w6.heap.size = cb at *
      go_upto_region 12 with fail
      have hrow := HST.out.row
      have hcv := run_bytes_str (w7.setCell ⟨bb, 0, none⟩ (.int .u8 1)) (some ⟨bb, 0, none⟩) k ((1 : Int) :: List.replicate (k - 1) 55) hrow
      rw [bz_1] at hcv
      have hln : ((1 : Int) :: List.replicate (k - 1) 55).length = k := by rw [List.length_cons, List.length_replicate]; omega
      rw [hln] at hcv
      have HX8 := Lib.hid (HXB.out.trans HST.out.ext)
      have HR2 := Lib.hid ((HW.out.ext HST.out.ext).read HK.out (HTW.out.ext HX8.out) (s := (1 : UInt8) :: List.replicate (k - 1) 55) (by rw [List.length_cons, List.length_replicate]; omega))
      clear hrow HST hln hcell hfz
      generalize clF (locOf r p) ((1 : UInt8) :: List.replicate (k - 1) 55) = c2 at *
      generalize (1 : UInt8) :: List.replicate (k - 1) 55 = rs2 at *
      generalize w7.setCell ⟨bb, 0, none⟩ (.int .u8 1) = w8 at *
      go_upto_region 13 with (first
        | (go_at_call 22; with_reducible refine HR2.out.mono ?_; rintro e w9 ⟨Y, cy, rfl, hrY, oY, hx9⟩)
        | (refine wpList_store_fresh rfl 47 (.tmp 14) (.tmp 51) rfl ([.bool (clT c2).1, .slice Y (clT c2).2.length cy] : List Value).toArray 47 _ rfl rfl infoClip rfl (by simp [Value.oneCell']) ?_))
      have hx10 : Ext w8 (w9.alloc (.cells ([.bool (clT c2).1, .slice Y (clT c2).2.length cy] : List Value).toArray 47)) := hx9.trans (Ext.alloc_ (Ext.refl _) _)
      have HX10 := Lib.hid (HX8.out.trans hx10)
      have k1 := (HB8.out.ext hx10).cell (j := 1) (v := .slice Z (clT c1).2.length cz) rfl
      clear hx9 hx10 hrY oY HR2 hcv HB8
      generalize w9.alloc (.cells ([.bool (clT c2).1, .slice Y (clT c2).2.length cy] : List Value).toArray 47) = w10 at *
      by_cases hl : 4096 < k
      · have e1 : clE c1 = 3 := by rw [HC1.out, if_pos hl]; rfl
        have e2 : (clT c1).2.length = 0 := by rw [HC1.out, if_pos hl]; rfl
        have e3 : clE c2 = 3 := by rw [HC2.out, if_pos hl]; rfl
        have i3 : (4096 : Int) < (k : Int) := by omega
        rw [e2] at k1
        generalize clE c1 = z1 at *
        generalize clE c2 = z2 at *
        have j1 : (z1 == 3) = true := by simpa using e1
        have j2 : (z2 == 3) = true := by simpa using e3
        clear e1 e2 e3 hl HC1 HC2
        go_wp2_with (go_at_call 19; with_reducible refine (HLV.out _ HX10.out).mono ?_; rintro e w16 ⟨rfl, hx16⟩)
        go_ret
        exact ⟨rfl, HX10.out.trans hx16⟩
      · have e1 : clE c1 = 0 := by rw [HC1.out, if_neg hl]; rfl
        have e2 : (clT c1).2.length = k := by rw [HC1.out, if_neg hl]; simp [clT]
        have e3 : clE c2 = 2 := by rw [HC2.out, if_neg hl]; rfl
        have i3 : ¬ ((4096 : Int) < (k : Int)) := by omega
        rw [e2] at k1
        generalize clE c1 = z1 at *
        generalize clE c2 = z2 at *
        have j1 : (z1 == 0) = true := by simpa using e1
        have j2 : (z2 == 2) = true := by simpa using e3
        clear e1 e2 e3 hl HC1 HC2
        go_wp2_with (go_at_call 19; with_reducible refine (HLV.out _ HX10.out).mono ?_; rintro e w16 ⟨rfl, hx16⟩)
        go_ret
        exact ⟨rfl, HX10.out.trans hx16⟩
end Go.Proofs.YtaobgbhgckndkaaGreatDoor.Loc
