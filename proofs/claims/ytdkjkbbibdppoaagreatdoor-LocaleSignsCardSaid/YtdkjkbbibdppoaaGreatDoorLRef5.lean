/- Walks: the document's Affix (a cluster of an affix's text). -/
import Derived.Test.YtdkjkbbibdppoaaGreatDoorLRef4
namespace Go.Proofs.YtdkjkbbibdppoaaGreatDoor.Loc
open Go.RowKit Utf All Small Strs Build EncC Pat Cls Dec Go.Proofs.YtdkjkbbibdppoaaGreatDoor.Sys
set_option linter.unusedVariables false
set_option linter.unusedSimpArgs false

theorem str_at {W : World} {E : Option Addr} {ts : List (List UInt8)} (hr : Row W E (strsV ts)) {m : Nat} (hm : m < ts.length) : ∃ b o, E = some ⟨b, o, none⟩ ∧ W.cell? ⟨b, o + m, none⟩ = some (.string ⟨ts[m].toArray⟩) := by
  obtain ⟨b, o, rfl, hc⟩ := hr.at_ (k := m) (by rw [strsV_len]; exact hm)
  exact ⟨b, o, rfl, hc m _ (by unfold strsV; rw [List.getElem?_map, List.getElem?_eq_getElem hm]; rfl)⟩
set_option maxHeartbeats 8000000 in
set_option maxRecDepth 100000 in
theorem ref_affix (A B C D : Option Addr) (c d a b : Nat) (r : Rec) (p : Pt) (s : ByteArray) (w : World) (h : Both r p) (hpt : PtR w A B C D p) :
    Calls Tryz.prog 36 #[.agg (refLV A B C D c d a b r p).toArray, .string s] w fun e w' => e = .returned (.bool (affB (locOf r p) s)) ∧ Ext w w' := by
  have HPT := Lib.hid hpt
  have HBT := Lib.hid h
  have b1 := Box.new w 61 (refLV A B C D c d a b r p)
  have hx1 : Ext w (w.alloc (.cells (refLV A B C D c d a b r p).toArray 61)) := Ext.alloc_ (Ext.refl w) _
  have HRG : Hid ((w.alloc (.cells (refLV A B C D c d a b r p).toArray 61)).rangeAt w.heap.size 0 [.string ⟨r.name.toArray⟩, .string ⟨r.pattern.toArray⟩, .string ⟨r.system.toArray⟩, .string ⟨r.decimal.toArray⟩, .string ⟨r.group.toArray⟩, .string ⟨r.minus.toArray⟩, .string ⟨r.percent.toArray⟩, .string ⟨r.currency.toArray⟩]) := Lib.hid (refL_rec b1.range)
  have HRP : Hid ((w.alloc (.cells (refLV A B C D c d a b r p).toArray 61)).rangeAt w.heap.size 8 [.slice A p.pre.length c, .slice B p.suf.length d, .slice C p.npre.length a, .slice D p.nsuf.length b, .int .i64 p.num.prim, .int .i64 p.num.sec, .int .i64 p.num.minInt, .int .i64 p.num.minFrac, .int .i64 p.num.maxFrac]) := Lib.hid (refL_pat b1.range)
  have HX1 := Lib.hid hx1
  have HAF := Lib.hid (ref_affixes A B C D c d a b r p)
  have HFIN : Hid ((affs (locOf r p)).take 4 = affs (locOf r p)) := Lib.hid rfl
  clear hpt h b1 hx1
  have HABD : Hid (affB (locOf r p) s = (affs (locOf r p)).any (affQ (locOf r p) s)) := Lib.hid rfl
  generalize affB (locOf r p) s = ab at *
  go_enter Tryz.func36, Tryz.ntmps36
  go_upto_region 1 with fail
  change Code.wp _ _ _ _ (w.alloc (.cells (refLV A B C D c d a b r p).toArray 61))
  generalize w.alloc (.cells (refLV A B C D c d a b r p).toArray 61) = w1 at *
  generalize hlb : w.heap.size = lb at *
  clear hlb
  go_wp2_with (first
    | (refine wpList_load_mid rfl 35 (.tmp 9) rfl lb 8 rfl _ _ HRP.out Tryz.underlying35 rfl infoP ?_)
    | (go_at_call 87; refine (HAF.out w1).mono ?_; rintro e w2 ⟨E, rfl, hE, hx2⟩))
  have HEE := Lib.hid hE
  have HX2 := Lib.hid (HX1.out.trans hx2)
  have HRG2 := Lib.hid (Ext.range_ hx2 HRG.out)
  clear hE hx2
  go_loopw [6, 7, 8] (fun i _ _ wr => ∃ n : Nat, n ≤ 4 ∧ i = .int .i64 n ∧ Ext w2 wr ∧ Hid (((affs (locOf r p)).take n).any (affQ (locOf r p) s) = false)) (fun i _ _ _ => 4 - (intOf i).toNat)
  case atStart => exact ⟨0, by omega, rfl, Ext.refl _, Lib.hid rfl⟩
  case round =>
    obtain ⟨n, hn, rfl, hx, HN⟩ := hrel
    by_cases hlt : n < 4
    · obtain ⟨q, X, k, e0, o0, hq, hqi, rfl, hc, hX⟩ := aff_at (l := locOf r p) (HEE.out.below hx (Nat.le_refl _)) (HPT.out.ext (HX2.out.trans hx)) hlt
      have HAB : Hid (affQ (locOf r p) s q = true → ab = true) := Lib.hid fun ha => by
        rw [HABD.out]; exact List.any_eq_true.2 ⟨q, hq, ha⟩
      have HNX : Hid (affQ (locOf r p) s q = false → ((affs (locOf r p)).take (n + 1)).any (affQ (locOf r p) s) = false) := Lib.hid fun ha => by
        rw [List.take_add_one, hqi, List.any_append, HN.out]
        simp [ha]
      have HQD : Hid (affQ (locOf r p) s q = (splitS (txtL (locOf r p) q)).any fun t => decide ((⟨t.toArray⟩ : ByteArray) = s)) := Lib.hid rfl
      have haf : (txtL (locOf r p) q).length ≤ 64 := HBT.out.may.aff q hq
      have HT : Hid (∀ W, Ext wr W → Calls Tryz.prog 88 #[.agg (recV r).toArray, .slice X q.length k] W fun e w' => e = .returned (.string ⟨(txtL (locOf r p) q).toArray⟩) ∧ Ext W w') := Lib.hid fun W hW =>
        ref_text X q.length k q r W (hX.below hW (Nat.le_refl _)) rfl (HBT.out.may.b.len q hq) HBT.out.may.b.cur HBT.out.may.b.per (HBT.out.pcs q hq)
      have HSP : Hid (∀ W, Calls Tryz.prog 31 #[.string ⟨(txtL (locOf r p) q).toArray⟩] W fun e w' => ∃ FE fc, e = .returned (.slice FE (splitS (txtL (locOf r p) q)).length fc) ∧ Row w' FE (strsV (splitS (txtL (locOf r p) q))) ∧ Ext W w') := Lib.hid fun W => by
        have := split_ref ⟨(txtL (locOf r p) q).toArray⟩ W (by rw [sizeL]; omega)
        have hd : (⟨(txtL (locOf r p) q).toArray⟩ : ByteArray).data.toList = txtL (locOf r p) q := by simp
        rwa [hd] at this
      have hsl : (splitS (txtL (locOf r p) q)).length ≤ 64 := Nat.le_trans (split_len_le _) haf
      have hrw := Ext.range_ hx HRG2.out
      have HX := Lib.hid hx
      have i1 : (n : Int) < 4 := by omega
      have i2 : (0 : Int) ≤ (n : Int) := by omega
      clear hX hx haf hqi hq
      generalize affQ (locOf r p) s q = aq at *
      generalize (⟨(txtL (locOf r p) q).toArray⟩ : ByteArray) = tx at *
      generalize splitS (txtL (locOf r p) q) = sp at *
      generalize q.length = ql at *
      go_upto_region 5 with fail
      refine wp_region_noPanic ?_
      refine wp_region_held_drew (S := fun W => Ext wr W ∧ W.rangeAt lb 0 [.string ⟨r.name.toArray⟩, .string ⟨r.pattern.toArray⟩, .string ⟨r.system.toArray⟩, .string ⟨r.decimal.toArray⟩, .string ⟨r.group.toArray⟩, .string ⟨r.minus.toArray⟩, .string ⟨r.percent.toArray⟩, .string ⟨r.currency.toArray⟩] ∧ W.cell? ⟨e0, o0 + n, none⟩ = some (.slice X ql k)) (by kernel_rfl) ?_ (fun hHeld => ?_)
      · exact ⟨Ext.drew_ (Ext.refl _), hrw, hc⟩
      refine take_ 0 (v := ?_) rfl (by kernel_rfl) (by kernel_rfl) (by kernel_rfl) (fun _ _ _ h => h) hHeld (by rfl) ?_ ?_
      rotate_left 1
      · (intro w hSw; (try dsimp only at hSw); go_simp; all_goals with_reducible rfl)
      try simp only [Act.put, List.setIfInBounds_toArray, List.set_cons_zero, List.set_cons_succ]
      refine takeRow_ (cs := [.string ⟨r.name.toArray⟩, .string ⟨r.pattern.toArray⟩, .string ⟨r.system.toArray⟩, .string ⟨r.decimal.toArray⟩, .string ⟨r.group.toArray⟩, .string ⟨r.minus.toArray⟩, .string ⟨r.percent.toArray⟩, .string ⟨r.currency.toArray⟩]) 1 rfl (by kernel_rfl) (by kernel_rfl) (by kernel_rfl) (fun _ _ _ h => h) hHeld (by rfl) 45 ((.tmp 16)) rfl lb (0) rfl _ (fun _ h => h.2.1) Tryz.underlying45 rfl infoR ?_
      try simp only [Act.put, List.setIfInBounds_toArray, List.set_cons_zero, List.set_cons_succ]
      refine take_ 2 (v := ?_) rfl (by kernel_rfl) (by kernel_rfl) (by kernel_rfl) (fun _ _ _ h => h) hHeld (by rfl) ?_ ?_
      rotate_left 1
      · (intro w hSw; (try dsimp only at hSw); go_simp; all_goals with_reducible rfl)
      try simp only [Act.put, List.setIfInBounds_toArray, List.set_cons_zero, List.set_cons_succ]
      refine take_ 3 (v := ?_) rfl (by kernel_rfl) (by kernel_rfl) (by kernel_rfl) (fun _ _ _ h => h) hHeld (by rfl) ?_ ?_
      rotate_left 1
      · (intro w hSw; (try dsimp only at hSw); go_simp; all_goals with_reducible rfl)
      try simp only [Act.put, List.setIfInBounds_toArray, List.set_cons_zero, List.set_cons_succ]
      refine take_ 4 (v := ?_) rfl (by kernel_rfl) (by kernel_rfl) (by kernel_rfl) (fun _ _ _ h => h) hHeld (by rfl) ?_ ?_
      rotate_left 1
      · (intro w hSw; (try dsimp only at hSw); go_simp; all_goals with_reducible rfl)
      try simp only [Act.put, List.setIfInBounds_toArray, List.set_cons_zero, List.set_cons_succ]
      refine take_ 5 (v := ?_) rfl (by kernel_rfl) (by kernel_rfl) (by kernel_rfl) (fun _ _ _ h => h) hHeld (by rfl) ?_ ?_
      rotate_left 1
      · (intro w hSw; (try dsimp only at hSw); go_simp; all_goals with_reducible rfl)
      try simp only [Act.put, List.setIfInBounds_toArray, List.set_cons_zero, List.set_cons_succ]
      refine only_ 6 rfl (by kernel_rfl) (fun K1 hK1 => ?_)
      go_simp
      go_at_call 88
      refine (HT.out _ hHeld.1).mono ?_
      rintro e w4 ⟨rfl, hx4⟩
      refine hK1.out _ _ (⟨hHeld.1.trans hx4, Ext.range_ hx4 hHeld.2.1, Ext.cell_ hx4 hHeld.2.2⟩) (fun hHeld => ?_)
      clear hK1
      try simp only [Act.put, List.setIfInBounds_toArray, List.set_cons_zero, List.set_cons_succ]
      refine only_ 7 rfl (by kernel_rfl) (fun K1 hK1 => ?_)
      go_simp
      go_at_call 31
      refine (HSP.out _).mono ?_
      rintro e w5 ⟨FE, fc, rfl, hr5, hx5⟩
      refine hK1.out _ _ (⟨hHeld.1.trans hx5, Ext.range_ hx5 hHeld.2.1, Ext.cell_ hx5 hHeld.2.2⟩) (fun hHeld => ?_)
      clear hK1
      try simp only [Act.put, List.setIfInBounds_toArray, List.set_cons_zero, List.set_cons_succ]
      refine take_ 8 (v := ?_) rfl (by kernel_rfl) (by kernel_rfl) (by kernel_rfl) (fun _ _ _ h => h) hHeld (by rfl) ?_ ?_
      rotate_left 1
      · (intro w hSw; (try dsimp only at hSw); go_simp; all_goals with_reducible rfl)
      try simp only [Act.put, List.setIfInBounds_toArray, List.set_cons_zero, List.set_cons_succ]
      refine wpAnyH_done (by kernel_rfl) ?_ _
      refine NoPanic.normal ?_
      have HX5 := Lib.hid (HX.out.trans hHeld.1)
      have HR5 := Lib.hid hr5
      clear hr5 hHeld hx4 hx5 HT HSP hrw hc
      go_wp2
      go_loopw [8] (fun i wz => ∃ m : Nat, m ≤ sp.length ∧ i = .int .i64 m ∧ Ext w5 wz ∧ Hid ((sp.take m).any (fun t => decide ((⟨t.toArray⟩ : ByteArray) = s)) = false)) (fun i _ => sp.length - (intOf i).toNat)
      case atStart => exact ⟨0, by omega, rfl, Ext.refl _, Lib.hid rfl⟩
      case round =>
        rename_i wz
        obtain ⟨m, hm, rfl, hxz, HM⟩ := hrel
        by_cases hlm : m < sp.length
        · obtain ⟨bb, oo, rfl, hcz⟩ := str_at (HR5.out.below hxz (Nat.le_refl _)) hlm
          have HA := Lib.hid (any_snoc (fun t => decide ((⟨t.toArray⟩ : ByteArray) = s)) sp m hlm)
          have HMEM : Hid (decide ((⟨(sp[m]).toArray⟩ : ByteArray) = s) = true → sp.any (fun t => decide ((⟨t.toArray⟩ : ByteArray) = s)) = true) := Lib.hid fun hd => List.any_eq_true.2 ⟨sp[m], List.getElem_mem hlm, hd⟩
          generalize (⟨(sp[m]).toArray⟩ : ByteArray) = u at *
          have hb := beq_str u s
          have j1 : (m : Int) < (sp.length : Int) := by omega
          cases hd : decide (u = s)
          · rw [hd] at hb HA
            have HM2 : Hid ((sp.take (m + 1)).any (fun t => decide ((⟨t.toArray⟩ : ByteArray) = s)) = false) := Lib.hid (by rw [HA.out, HM.out]; rfl)
            clear hd HA HMEM
            go_wp2
            go_roundw
            case rel => exact ⟨m + 1, by omega, by go_num, hxz, HM2⟩
            case measure => simp [intOf]; omega
          · rw [hd] at hb
            have HT1 : Hid (ab = true) := Lib.hid (HAB.out (by rw [HQD.out]; exact HMEM.out hd))
            clear hd HA HMEM
            go_wp2
            go_ret
            exact ⟨by rw [HT1.out]; rfl, HX2.out.trans (HX5.out.trans hxz)⟩
        · have e : m = sp.length := by omega
          subst e
          have HF : Hid (aq = false) := Lib.hid (by rw [HQD.out, ← List.take_length (l := sp)]; exact HM.out)
          have HN2 := Lib.hid (HNX.out HF.out)
          have j1 : ¬ ((sp.length : Int) < (sp.length : Int)) := by omega
          go_wp2
          go_roundw
          case rel => exact ⟨n + 1, by omega, by go_num, HX5.out.trans hxz, HN2⟩
          case measure => simp [intOf]; omega
    · have e : n = 4 := by omega
      subst e
      have i1 : ¬ ((4 : Int) < 4) := by omega
      have HF : Hid (ab = false) := Lib.hid (by rw [HABD.out]; have := HN.out; rw [HFIN.out] at this; exact this)
      go_wp2
      go_ret
      exact ⟨by rw [HF.out]; rfl, HX2.out.trans hx⟩
end Go.Proofs.YtdkjkbbibdppoaaGreatDoor.Loc
