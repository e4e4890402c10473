/- Walks: how many bytes a text has at most, of both sides. -/
import Derived.Test.YthoicieckodneaaGreatDoorJSt
import Derived.Test.YthoicieckodneaaGreatDoorVwW2
import Derived.Test.YthoicieckodneaaGreatDoorVwW3
namespace Go.Proofs.YthoicieckodneaaGreatDoor.Loc
open Go.RowKit Utf All Small Strs Build EncC Pat Cls Dec Go.Proofs.YthoicieckodneaaGreatDoor.Sys
set_option linter.unusedVariables false
set_option linter.unusedSimpArgs false

def dNo (neg : Bool) : Dr := ⟨neg, [], false, []⟩
theorem dNo_ok (neg : Bool) : DrOk (dNo neg) := ⟨by simp [dNo], by simp [dNo], fun _ => rfl⟩
theorem wide_le {r : Rec} {p : Pt} (h : Both r p) (neg : Bool) : wideF (locOf r p) neg ≤ 400000 := by
  have h1 := (items_le h (d := dNo neg) (by simp [dNo]) (by simp [dNo])).2.2
  have h2 := wide_text (locOf r p) neg
  have e : itemsF (locOf r p) (dNo neg) = itemsF (locOf r p) ⟨neg, [], false, []⟩ := rfl
  rw [e] at h1
  omega
set_option maxHeartbeats 2000000 in
set_option maxRecDepth 100000 in
theorem view_wide (g : Nat) (A B C D : Option Addr) (c d a b : Nat) (neg : Bool) (r : Rec) (p : Pt) (w : World) (h : LocR w g A B C D c d a b (locOf r p)) (hK : Knd r p) :
    Calls Tryz.prog 73 #[.pointer (some ⟨g, 0, none⟩), .bool neg] w fun e w' => e = .returned (.int .i64 ((wideF (locOf r p) neg : Nat) : Int)) ∧ Ext w w' := by
  have HVN : Hid (Calls Tryz.prog 64 #[.pointer (some ⟨g, 0, none⟩), .agg #[.bool neg, .slice none 0 0, .bool false, .slice none 0 0]] w fun e w' => ∃ vb E cE F cF, e = .returned (.pointer (some ⟨vb, 0, none⟩)) ∧ VwR w' vb E cE F cF (itemsF (locOf r p) (dNo neg)) (stopsP (itemsF (locOf r p) (dNo neg)) (ahead (locOf r p) neg).length) ∧ Ext w w') := Lib.hid
    ((view_new g A B C D none none c d a b 0 0 (dNo neg) r p w h hK ⟨.inl rfl, .inl rfl⟩ (dNo_ok neg) (by simp [dNo]) (by simp [dNo])).mono fun e w' ⟨vb, E, cE, F, cF, h1, h2, h3⟩ => ⟨vb, E, cE, F, cF, h1, h2.vw, h3⟩)
  have HWT : Hid ((textI (itemsF (locOf r p) (dNo neg))).length = wideF (locOf r p) neg) := Lib.hid (wide_text (locOf r p) neg)
  generalize stopsP (itemsF (locOf r p) (dNo neg)) (ahead (locOf r p) neg).length = S at *
  generalize itemsF (locOf r p) (dNo neg) = L at *
  have HTX : Hid (∀ W vb E cE F cF, VwR W vb E cE F cF L S → Calls Tryz.prog 36 #[.pointer (some ⟨vb, 0, none⟩)] W fun e w' => e = .returned (.string ⟨(textI L).toArray⟩) ∧ W = w') := Lib.hid fun W vb E cE F cF h => view_text h
  generalize textI L = TX at *
  generalize wideF (locOf r p) neg = wf at *
  clear h
  go_enter Tryz.func73, Tryz.ntmps73
  go_wp2_with (first
    | (go_at_call 64; with_reducible refine HVN.out.mono ?_; rintro e w1 ⟨vb, E, cE, F, cF, rfl, hv, hx1⟩)
    | (go_at_call 36; with_reducible refine (HTX.out _ _ _ _ _ _ hv).mono ?_; rintro e w2 ⟨rfl, rfl⟩))
  go_ret
  exact ⟨by rw [← HWT.out]; first | done | rfl, hx1⟩
theorem maxTo_le {r : Rec} {p : Pt} (h : Both r p) : ∀ k, maxTo (locOf r p) k ≤ 4
  | 0 => Nat.zero_le _
  | k + 1 => by
    have h1 := maxTo_le h k
    have h2 := dig_le h (k : Int)
    unfold maxTo
    omega
set_option maxHeartbeats 4000000 in
set_option maxRecDepth 100000 in
theorem view_bound (g : Nat) (A B C D : Option Addr) (c d a b whole rest : Nat) (r : Rec) (p : Pt) (w : World) (h : LocR w g A B C D c d a b (locOf r p)) (hK : Knd r p) (hw : whole ≤ 65) (hr : rest ≤ 65) :
    Calls Tryz.prog 44 #[.pointer (some ⟨g, 0, none⟩), .int .i64 (whole : Int), .int .i64 (rest : Int)] w fun e w' => e = .returned (.int .i64 ((boundF (locOf r p) whole rest : Nat) : Int)) ∧ Ext w w' := by
  have HL := Lib.hid h
  have HDG : Hid (∀ W (k : Nat), Ext w W → Calls Tryz.prog 53 #[.pointer (some ⟨g, 0, none⟩), .int .i64 (k : Int)] W fun e w' => e = .returned (.string ⟨(digZ (locOf r p) (k : Int)).toArray⟩) ∧ Ext W w') := Lib.hid fun W k hW => digit_l g A B C D c d a b (k : Int) (locOf r p) W (HL.out.ext hW) hK.both.may.b.ten
  have HWD : Hid (∀ W neg, Ext w W → Calls Tryz.prog 73 #[.pointer (some ⟨g, 0, none⟩), .bool neg] W fun e w' => e = .returned (.int .i64 ((wideF (locOf r p) neg : Nat) : Int)) ∧ Ext W w') := Lib.hid fun W neg hW => view_wide g A B C D c d a b neg r p W (HL.out.ext hW) hK
  have HRC : Hid (∀ W, Ext w W → Calls Tryz.prog 55 #[.pointer (some ⟨g, 0, none⟩)] W fun e w' => e = .returned (.agg ([.string ⟨r.name.toArray⟩, .string ⟨r.pattern.toArray⟩, .string ⟨r.system.toArray⟩, .string ⟨r.decimal.toArray⟩, .string ⟨r.group.toArray⟩, .string ⟨r.minus.toArray⟩, .string ⟨r.percent.toArray⟩, .string ⟨r.currency.toArray⟩] : List Value).toArray) ∧ Ext W w') := Lib.hid fun W hW => record_l g A B C D c d a b (locOf r p) W (HL.out.ext hW)
  have HSZ : Hid (∀ W, Ext w W → Calls Tryz.prog 51 #[.pointer (some ⟨g, 0, none⟩)] W fun e w' => e = .returned (.tuple #[.int .i64 p.num.prim, .int .i64 p.num.sec]) ∧ Ext W w') := Lib.hid fun W hW => sizes_l g A B C D c d a b (locOf r p) W (HL.out.ext hW)
  have hwf := wide_le hK.both false
  have hwt := wide_le hK.both true
  have HMS : Hid (∀ k, maxTo (locOf r p) (k + 1) = max (maxTo (locOf r p) k) (digZ (locOf r p) (k : Int)).length) := Lib.hid fun k => rfl
  have HML : Hid (∀ k, maxTo (locOf r p) k ≤ 4) := Lib.hid (maxTo_le hK.both)
  have HDL : Hid (∀ k : Nat, (digZ (locOf r p) (k : Int)).length ≤ 4) := Lib.hid fun k => dig_le hK.both _
  have hdc : r.decimal.length ≤ 1000 := hK.both.may.b.dec
  have hgc : r.group.length ≤ 1000 := hK.both.may.b.grp
  have hpr := hK.num.1
  have HBO : Hid (boundF (locOf r p) whole rest = max (wideF (locOf r p) false) (wideF (locOf r p) true) + (whole + rest) * maxTo (locOf r p) 10 + r.decimal.length + (whole - 1) * (if 0 < p.num.prim then r.group.length else 0)) := Lib.hid rfl
  clear h
  go_enter Tryz.func44, Tryz.ntmps44
  go_wp2
  go_loopw [7, 8, 12] (fun m _ i wr => ∃ k : Nat, k ≤ 10 ∧ i = .int .i64 k ∧ m = .int .i64 ((maxTo (locOf r p) k : Nat) : Int) ∧ Ext w wr) (fun _ _ i _ => 10 - (intOf i).toNat)
  case atStart => exact ⟨0, Nat.zero_le _, rfl, rfl, Ext.refl _⟩
  case round =>
    obtain ⟨k, hk, rfl, rfl, hx⟩ := hrel
    by_cases hlt : k < 10
    · have HDX := Lib.hid (fun W hW => HDG.out W k (Ext.trans hx hW))
      have HMK := Lib.hid (HMS.out k)
      have hml := HML.out k
      have hdl := HDL.out k
      have HX := Lib.hid hx
      have i1 : (k : Int) < 10 := by omega
      generalize digZ (locOf r p) (k : Int) = t at *
      generalize maxTo (locOf r p) k = m at *
      clear hx
      go_wp2_with (go_at_call 53; with_reducible refine (HDX.out _ (Ext.refl _)).mono ?_; rintro e w1 ⟨rfl, hx1⟩)
      go_roundw
      case rel => exact ⟨k + 1, by omega, by go_num, by rw [HMK.out]; exact congrArg (Value.int .i64) (by omega), HX.out.trans hx1⟩
      case measure => simp [intOf]; omega
    · have e : k = 10 := by omega
      subst e
      have hml := HML.out 10
      have HX := Lib.hid hx
      have HWF := Lib.hid (fun W hW => HWD.out W false (Ext.trans hx hW))
      have HWT := Lib.hid (fun W hW => HWD.out W true (Ext.trans hx hW))
      generalize maxTo (locOf r p) 10 = mx at *
      generalize wideF (locOf r p) false = wf at *
      generalize wideF (locOf r p) true = wt at *
      obtain ⟨P, hP⟩ : ∃ P : Nat, P = (whole + rest) * mx := ⟨_, rfl⟩
      have hPl : P ≤ 130 * 4 := by rw [hP]; exact Nat.mul_le_mul (by omega) hml
      have hPi : ((whole : Int) + (rest : Int)) * (mx : Int) = (P : Int) := by rw [hP]; simp
      obtain ⟨Q, hQ⟩ : ∃ Q : Nat, Q = (whole - 1) * r.group.length := ⟨_, rfl⟩
      have hQl : Q ≤ 65 * 1000 := by rw [hQ]; exact Nat.mul_le_mul (by omega) hgc
      have hQi : max ((whole : Int) - 1) 0 * (r.group.length : Int) = (Q : Int) := by
        have e1 : max ((whole : Int) - 1) 0 = ((whole - 1 : Nat) : Int) := by omega
        rw [e1, hQ]; simp
      have HPI := Lib.hid hPi
      have HQI := Lib.hid hQi
      have HP := Lib.hid hP
      have HQ := Lib.hid hQ
      clear hx hP hQ
      by_cases hp0 : p.num.prim > 0
      · have HB2 : Hid ((boundF (locOf r p) whole rest : Nat) = max wf wt + P + r.decimal.length + Q) := Lib.hid (by rw [HBO.out, if_pos hp0, HP.out, HQ.out])
        go_wp2_with (first
          | (go_at_call 73; with_reducible refine (HWF.out _ (Ext.refl _)).mono ?_; rintro e w1 ⟨rfl, hx1⟩)
          | (go_at_call 73; with_reducible refine (HWT.out _ hx1).mono ?_; rintro e w2 ⟨rfl, hx2⟩; have HX2 := Lib.hid (HX.out.trans (hx1.trans hx2)))
          | (go_at_call 55; with_reducible refine (HRC.out _ HX2.out).mono ?_; rintro e w3 ⟨rfl, hx3⟩; have HX3 := Lib.hid (HX2.out.trans hx3))
          | (go_at_call 51; with_reducible refine (HSZ.out _ HX3.out).mono ?_; rintro e w4 ⟨rfl, hx4⟩; have HX4 := Lib.hid (HX3.out.trans hx4))
          | (go_at_call 55; with_reducible refine (HRC.out _ HX4.out).mono ?_; rintro e w5 ⟨rfl, hx5⟩)
          | (rw [run_field3]; simp only [Result.andThen]; rw [Oper.upon_value])
          | (rw [run_field4]; simp only [Result.andThen]; rw [Oper.upon_value]))
        go_ret
        refine ⟨ret_int ?_, HX4.out.trans hx5⟩
        rw [HB2.out]
        have h1 := HPI.out
        have h2 := HQI.out
        try simp only [h1, h2]
        omega
      · have HB2 : Hid ((boundF (locOf r p) whole rest : Nat) = max wf wt + P + r.decimal.length) := Lib.hid (by rw [HBO.out, if_neg hp0, HP.out]; simp)
        go_wp2_with (first
          | (go_at_call 73; with_reducible refine (HWF.out _ (Ext.refl _)).mono ?_; rintro e w1 ⟨rfl, hx1⟩)
          | (go_at_call 73; with_reducible refine (HWT.out _ hx1).mono ?_; rintro e w2 ⟨rfl, hx2⟩; have HX2 := Lib.hid (HX.out.trans (hx1.trans hx2)))
          | (go_at_call 55; with_reducible refine (HRC.out _ HX2.out).mono ?_; rintro e w3 ⟨rfl, hx3⟩; have HX3 := Lib.hid (HX2.out.trans hx3))
          | (go_at_call 51; with_reducible refine (HSZ.out _ HX3.out).mono ?_; rintro e w4 ⟨rfl, hx4⟩; have HX4 := Lib.hid (HX3.out.trans hx4))
          | (rw [run_field3]; simp only [Result.andThen]; rw [Oper.upon_value]))
        go_ret
        refine ⟨ret_int ?_, HX4.out⟩
        rw [HB2.out]
        have h1 := HPI.out
        try simp only [h1]
        omega
theorem prtLen_snoc {l : List Prt} {k : Nat} (h : k < l.length) : prtLen (l.take (k + 1)) = prtLen (l.take k) + l[k].2.length := by
  unfold prtLen
  rw [List.take_succ_eq_append_getElem h, List.map_append, List.sum_append]; simp
theorem prtLen_tot (l : List Prt) : prtLen l = totP l := by
  unfold prtLen totP
  induction l with
  | nil => rfl
  | cons x r ih => rw [List.map_cons, List.sum_cons, List.foldr_cons, ih]
theorem prtLen_take (l : List Prt) (k : Nat) : prtLen (l.take k) ≤ prtLen l := by
  rw [prtLen_tot, prtLen_tot]
  have e : l = l.take k ++ l.drop k := (List.take_append_drop k l).symm
  have h := totP_app (l.take k) (l.drop k)
  rw [← e] at h
  omega
set_option maxHeartbeats 4000000 in
set_option maxRecDepth 100000 in
theorem ref16_aff (A B C D : Option Addr) (c d a b : Nat) (neg : Bool) (r : Rec) (p : Pt) (w : World) (hK : Knd r p) (hpt : PtR w A B C D p) (hcap : CapR p c d a b) :
    Calls Tryz.prog 74 #[.agg ([.string ⟨r.name.toArray⟩, .string ⟨r.pattern.toArray⟩, .string ⟨r.system.toArray⟩, .string ⟨r.decimal.toArray⟩, .string ⟨r.group.toArray⟩, .string ⟨r.minus.toArray⟩, .string ⟨r.percent.toArray⟩, .string ⟨r.currency.toArray⟩, .slice A p.pre.length c, .slice B p.suf.length d, .slice C p.npre.length a, .slice D p.nsuf.length b, .int .i64 p.num.prim, .int .i64 p.num.sec, .int .i64 p.num.minInt, .int .i64 p.num.minFrac, .int .i64 p.num.maxFrac] : List Value).toArray, .bool neg] w fun e w' => e = .returned (.int .i64 ((wideF (locOf r p) neg : Nat) : Int)) ∧ Ext w w' := by
  have HRA : Hid (∀ W, Ext w W → Calls Tryz.prog 59 #[.agg ([.string ⟨r.name.toArray⟩, .string ⟨r.pattern.toArray⟩, .string ⟨r.system.toArray⟩, .string ⟨r.decimal.toArray⟩, .string ⟨r.group.toArray⟩, .string ⟨r.minus.toArray⟩, .string ⟨r.percent.toArray⟩, .string ⟨r.currency.toArray⟩, .slice A p.pre.length c, .slice B p.suf.length d, .slice C p.npre.length a, .slice D p.nsuf.length b, .int .i64 p.num.prim, .int .i64 p.num.sec, .int .i64 p.num.minInt, .int .i64 p.num.minFrac, .int .i64 p.num.maxFrac] : List Value).toArray, .bool neg] W fun e w' => ∃ E c1 F c2, e = .returned (.tuple #[.slice E (ahead (locOf r p) neg).length c1, .slice F (behind (locOf r p) neg).length c2]) ∧ Row w' E (prtV (ahead (locOf r p) neg)) ∧ Row w' F (prtV (behind (locOf r p) neg)) ∧ Ext W w') := Lib.hid fun W hW =>
    (ref_around A B C D c d a b neg r p W hK.both (hpt.ext hW) hcap).mono fun e w' ⟨E, c1, F, c2, h1, h2, h3, _, _, h4⟩ => ⟨E, c1, F, c2, h1, h2, h3, h4⟩
  have HAF : Hid ((if neg then r.minus.length else 0) + prtLen (ahead (locOf r p) neg) + prtLen (behind (locOf r p) neg) = wideF (locOf r p) neg) := Lib.hid (aff_wide hK.both neg)
  have hs := side_tot hK.both neg
  have hsl := side_len hK.both neg
  have hml : r.minus.length ≤ 1000 := hK.both.may.b.min
  rw [← prtLen_tot, ← prtLen_tot] at hs
  have b1 := Box.new w 34 [.string ⟨r.name.toArray⟩, .string ⟨r.pattern.toArray⟩, .string ⟨r.system.toArray⟩, .string ⟨r.decimal.toArray⟩, .string ⟨r.group.toArray⟩, .string ⟨r.minus.toArray⟩, .string ⟨r.percent.toArray⟩, .string ⟨r.currency.toArray⟩, .slice A p.pre.length c, .slice B p.suf.length d, .slice C p.npre.length a, .slice D p.nsuf.length b, .int .i64 p.num.prim, .int .i64 p.num.sec, .int .i64 p.num.minInt, .int .i64 p.num.minFrac, .int .i64 p.num.maxFrac]
  have hx1 : Ext w (w.alloc (.cells ([.string ⟨r.name.toArray⟩, .string ⟨r.pattern.toArray⟩, .string ⟨r.system.toArray⟩, .string ⟨r.decimal.toArray⟩, .string ⟨r.group.toArray⟩, .string ⟨r.minus.toArray⟩, .string ⟨r.percent.toArray⟩, .string ⟨r.currency.toArray⟩, .slice A p.pre.length c, .slice B p.suf.length d, .slice C p.npre.length a, .slice D p.nsuf.length b, .int .i64 p.num.prim, .int .i64 p.num.sec, .int .i64 p.num.minInt, .int .i64 p.num.minFrac, .int .i64 p.num.maxFrac] : List Value).toArray 34)) := Ext.alloc_ (Ext.refl _) _
  have HR1 := Lib.hid b1.range
  have HB1 := Lib.hid b1
  have HX1 := Lib.hid hx1
  clear b1 hx1 hpt hcap
  generalize wideF (locOf r p) neg = wf at *
  go_enter Tryz.func74, Tryz.ntmps74
  go_upto_region 1 with fail
  change Code.wp _ _ _ _ (w.alloc (.cells ([.string ⟨r.name.toArray⟩, .string ⟨r.pattern.toArray⟩, .string ⟨r.system.toArray⟩, .string ⟨r.decimal.toArray⟩, .string ⟨r.group.toArray⟩, .string ⟨r.minus.toArray⟩, .string ⟨r.percent.toArray⟩, .string ⟨r.currency.toArray⟩, .slice A p.pre.length c, .slice B p.suf.length d, .slice C p.npre.length a, .slice D p.nsuf.length b, .int .i64 p.num.prim, .int .i64 p.num.sec, .int .i64 p.num.minInt, .int .i64 p.num.minFrac, .int .i64 p.num.maxFrac] : List Value).toArray 34))
  generalize w.alloc (.cells ([.string ⟨r.name.toArray⟩, .string ⟨r.pattern.toArray⟩, .string ⟨r.system.toArray⟩, .string ⟨r.decimal.toArray⟩, .string ⟨r.group.toArray⟩, .string ⟨r.minus.toArray⟩, .string ⟨r.percent.toArray⟩, .string ⟨r.currency.toArray⟩, .slice A p.pre.length c, .slice B p.suf.length d, .slice C p.npre.length a, .slice D p.nsuf.length b, .int .i64 p.num.prim, .int .i64 p.num.sec, .int .i64 p.num.minInt, .int .i64 p.num.minFrac, .int .i64 p.num.maxFrac] : List Value).toArray 34) = w1 at *
  generalize w.heap.size = lb at *
  generalize ahead (locOf r p) neg = PA at *
  generalize behind (locOf r p) neg = PB at *
  have HPS : Hid (∀ (l : List Prt) k, prtLen (l.take k) ≤ prtLen l) := Lib.hid prtLen_take
  go_upto_region 2 with (first
    | (refine wpList_load_mid rfl 34 (.tmp 2) rfl lb 0 rfl [.string ⟨r.name.toArray⟩, .string ⟨r.pattern.toArray⟩, .string ⟨r.system.toArray⟩, .string ⟨r.decimal.toArray⟩, .string ⟨r.group.toArray⟩, .string ⟨r.minus.toArray⟩, .string ⟨r.percent.toArray⟩, .string ⟨r.currency.toArray⟩, .slice A p.pre.length c, .slice B p.suf.length d, .slice C p.npre.length a, .slice D p.nsuf.length b, .int .i64 p.num.prim, .int .i64 p.num.sec, .int .i64 p.num.minInt, .int .i64 p.num.minFrac, .int .i64 p.num.maxFrac] _ HR1.out Tryz.underlying34 rfl infoRL ?_)
    | (go_at_call 59; with_reducible refine (HRA.out _ HX1.out).mono ?_; rintro e w2 ⟨E1, c1, F1, c2, rfl, hE1, hF1, hx2⟩))
  have HE := Lib.hid hE1
  have HF := Lib.hid hF1
  have HX2 := Lib.hid (HX1.out.trans hx2)
  have q5 := (HB1.out.ext hx2).cell (j := 5) (v := .string ⟨r.minus.toArray⟩) rfl
  clear hE1 hF1 hx2 HRA HR1 HB1
  obtain ⟨M, hM⟩ : ∃ M : Nat, M = (if neg then r.minus.length else 0) := ⟨_, rfl⟩
  have hMl : M ≤ 1000 := by rw [hM]; split <;> omega
  have HMM := Lib.hid hM
  have HAF2 : Hid (M + prtLen PA + prtLen PB = wf) := Lib.hid (by rw [hM]; exact HAF.out)
  clear hM
  go_upto_region 3 with fail
  go_upto_if 16 with fail
  go_cut [7] (fun v wx => v = .int .i64 (M : Int) ∧ wx = w2)
  case first =>
    cases neg
    · have HM0 : Hid (M = 0) := Lib.hid HMM.out
      go_wp2_with fail
      go_meet
      exact ⟨by rw [HM0.out]; rfl, rfl⟩
    · have HM0 : Hid (M = r.minus.length) := Lib.hid HMM.out
      go_wp2_with fail
      go_meet
      exact ⟨by rw [HM0.out]; first | done | rfl, rfl⟩
  case rest =>
    obtain ⟨rfl, rfl⟩ := hcut
    go_upto_region 6 with fail
    go_wp2
    go_loop [7, 8] (fun v i => ∃ k : Nat, k ≤ PA.length ∧ i = .int .i64 k ∧ v = .int .i64 ((M + prtLen (PA.take k) : Nat) : Int)) (fun _ i => PA.length - (intOf i).toNat)
    case atStart => exact ⟨0, Nat.zero_le _, rfl, by simp [prtLen]⟩
    case round =>
      obtain ⟨k, hk, rfl, rfl⟩ := hrel
      have hpk := HPS.out PA k
      by_cases hlt : k < PA.length
      · obtain ⟨bx, ox, rfl, hg⟩ := row_prt HE.out hlt
        have HS := Lib.hid (prtLen_snoc hlt)
        have hpk2 := HPS.out PA (k + 1)
        rw [HS.out] at hpk2
        generalize PA[k] = x at *
        obtain ⟨sg, t⟩ := x
        simp only at hpk2 hg
        have c1 : wc.cell? ⟨bx, ox + k * 2 + 1, none⟩ = some (.string ⟨t.toArray⟩) := hg 1 _ rfl
        have i1 : (k : Int) < (PA.length : Int) := by omega
        have i2 : (0 : Int) ≤ (k : Int) := by omega
        clear hg
        go_wp2
        go_round
        case rel => exact ⟨k + 1, by omega, by go_num, by rw [HS.out]; exact congrArg (Value.int .i64) (by have e : ((sg, t) : Prt).2.length = t.length := rfl; omega)⟩
        case measure => simp [intOf]; omega
      · have e : k = PA.length := by omega
        subst e
        have i1 : ¬ ((PA.length : Int) < (PA.length : Int)) := by omega
        rw [List.take_length] at hpk ⊢
        go_upto_region 10 with fail
        go_wp2
        go_loop [7, 9] (fun v i => ∃ k : Nat, k ≤ PB.length ∧ i = .int .i64 k ∧ v = .int .i64 ((M + prtLen PA + prtLen (PB.take k) : Nat) : Int)) (fun _ i => PB.length - (intOf i).toNat)
        case atStart => exact ⟨0, Nat.zero_le _, rfl, by simp [prtLen]⟩
        case round =>
          obtain ⟨k, hk, rfl, rfl⟩ := hrel
          have hpk := HPS.out PB k
          by_cases hlt : k < PB.length
          · obtain ⟨bx, ox, rfl, hg⟩ := row_prt HF.out hlt
            have HS := Lib.hid (prtLen_snoc hlt)
            have hpk2 := HPS.out PB (k + 1)
            rw [HS.out] at hpk2
            generalize PB[k] = x at *
            obtain ⟨sg, t⟩ := x
            simp only at hpk2 hg
            have c1 : wc.cell? ⟨bx, ox + k * 2 + 1, none⟩ = some (.string ⟨t.toArray⟩) := hg 1 _ rfl
            have i1 : (k : Int) < (PB.length : Int) := by omega
            have i2 : (0 : Int) ≤ (k : Int) := by omega
            clear hg
            go_wp2
            go_round
            case rel => exact ⟨k + 1, by omega, by go_num, by rw [HS.out]; exact congrArg (Value.int .i64) (by have e : ((sg, t) : Prt).2.length = t.length := rfl; omega)⟩
            case measure => simp [intOf]; omega
          · have e : k = PB.length := by omega
            subst e
            have i1 : ¬ ((PB.length : Int) < (PB.length : Int)) := by omega
            rw [List.take_length]
            go_wp2
            go_ret
            refine ⟨ret_int ?_, HX2.out⟩
            have := HAF2.out
            omega
set_option maxHeartbeats 4000000 in
set_option maxRecDepth 100000 in
theorem ref16_bound (A B C D : Option Addr) (c d a b whole rest : Nat) (r : Rec) (p : Pt) (w : World) (hK : Knd r p) (hpt : PtR w A B C D p) (hcap : CapR p c d a b) (hw : whole ≤ 65) (hr : rest ≤ 65) :
    Calls Tryz.prog 45 #[.agg ([.string ⟨r.name.toArray⟩, .string ⟨r.pattern.toArray⟩, .string ⟨r.system.toArray⟩, .string ⟨r.decimal.toArray⟩, .string ⟨r.group.toArray⟩, .string ⟨r.minus.toArray⟩, .string ⟨r.percent.toArray⟩, .string ⟨r.currency.toArray⟩, .slice A p.pre.length c, .slice B p.suf.length d, .slice C p.npre.length a, .slice D p.nsuf.length b, .int .i64 p.num.prim, .int .i64 p.num.sec, .int .i64 p.num.minInt, .int .i64 p.num.minFrac, .int .i64 p.num.maxFrac] : List Value).toArray, .int .i64 (whole : Int), .int .i64 (rest : Int)] w fun e w' => e = .returned (.int .i64 ((boundF (locOf r p) whole rest : Nat) : Int)) ∧ Ext w w' := by
  have HAF : Hid (∀ W neg, Ext w W → Calls Tryz.prog 74 #[.agg ([.string ⟨r.name.toArray⟩, .string ⟨r.pattern.toArray⟩, .string ⟨r.system.toArray⟩, .string ⟨r.decimal.toArray⟩, .string ⟨r.group.toArray⟩, .string ⟨r.minus.toArray⟩, .string ⟨r.percent.toArray⟩, .string ⟨r.currency.toArray⟩, .slice A p.pre.length c, .slice B p.suf.length d, .slice C p.npre.length a, .slice D p.nsuf.length b, .int .i64 p.num.prim, .int .i64 p.num.sec, .int .i64 p.num.minInt, .int .i64 p.num.minFrac, .int .i64 p.num.maxFrac] : List Value).toArray, .bool neg] W fun e w' => e = .returned (.int .i64 ((wideF (locOf r p) neg : Nat) : Int)) ∧ Ext W w') := Lib.hid fun W neg hW => ref16_aff A B C D c d a b neg r p W hK (hpt.ext hW) hcap
  have HDG : Hid (∀ (k : Nat), k < 10 → ∀ W, Calls Tryz.prog 56 #[.string ⟨r.system.toArray⟩, .int .i64 (k : Int)] W fun e w' => e = .returned (.string ⟨(digZ (locOf r p) (k : Int)).toArray⟩) ∧ Ext W w') := Lib.hid fun k hk W => by
    have h := ref_digit ⟨r.system.toArray⟩ (k : Int) W (by omega) (by omega)
    rw [← dig_k hK.both hk] at h
    exact h
  have hwf := wide_le hK.both false
  have hwt := wide_le hK.both true
  have HMS : Hid (∀ k, maxTo (locOf r p) (k + 1) = max (maxTo (locOf r p) k) (digZ (locOf r p) (k : Int)).length) := Lib.hid fun k => rfl
  have HML : Hid (∀ k, maxTo (locOf r p) k ≤ 4) := Lib.hid (maxTo_le hK.both)
  have HDL : Hid (∀ k : Nat, (digZ (locOf r p) (k : Int)).length ≤ 4) := Lib.hid fun k => dig_le hK.both _
  have hdc : r.decimal.length ≤ 1000 := hK.both.may.b.dec
  have hgc : r.group.length ≤ 1000 := hK.both.may.b.grp
  have hpr := hK.num.1
  have HBO : Hid (boundF (locOf r p) whole rest = max (wideF (locOf r p) false) (wideF (locOf r p) true) + (whole + rest) * maxTo (locOf r p) 10 + r.decimal.length + (whole - 1) * (if 0 < p.num.prim then r.group.length else 0)) := Lib.hid rfl
  have b1 := Box.new w 34 [.string ⟨r.name.toArray⟩, .string ⟨r.pattern.toArray⟩, .string ⟨r.system.toArray⟩, .string ⟨r.decimal.toArray⟩, .string ⟨r.group.toArray⟩, .string ⟨r.minus.toArray⟩, .string ⟨r.percent.toArray⟩, .string ⟨r.currency.toArray⟩, .slice A p.pre.length c, .slice B p.suf.length d, .slice C p.npre.length a, .slice D p.nsuf.length b, .int .i64 p.num.prim, .int .i64 p.num.sec, .int .i64 p.num.minInt, .int .i64 p.num.minFrac, .int .i64 p.num.maxFrac]
  have hx1 : Ext w (w.alloc (.cells ([.string ⟨r.name.toArray⟩, .string ⟨r.pattern.toArray⟩, .string ⟨r.system.toArray⟩, .string ⟨r.decimal.toArray⟩, .string ⟨r.group.toArray⟩, .string ⟨r.minus.toArray⟩, .string ⟨r.percent.toArray⟩, .string ⟨r.currency.toArray⟩, .slice A p.pre.length c, .slice B p.suf.length d, .slice C p.npre.length a, .slice D p.nsuf.length b, .int .i64 p.num.prim, .int .i64 p.num.sec, .int .i64 p.num.minInt, .int .i64 p.num.minFrac, .int .i64 p.num.maxFrac] : List Value).toArray 34)) := Ext.alloc_ (Ext.refl _) _
  have HR1 := Lib.hid b1.range
  have HB1 := Lib.hid b1
  have HX1 := Lib.hid hx1
  clear b1 hx1 hpt hcap
  go_enter Tryz.func45, Tryz.ntmps45
  go_upto_region 1 with fail
  change Code.wp _ _ _ _ (w.alloc (.cells ([.string ⟨r.name.toArray⟩, .string ⟨r.pattern.toArray⟩, .string ⟨r.system.toArray⟩, .string ⟨r.decimal.toArray⟩, .string ⟨r.group.toArray⟩, .string ⟨r.minus.toArray⟩, .string ⟨r.percent.toArray⟩, .string ⟨r.currency.toArray⟩, .slice A p.pre.length c, .slice B p.suf.length d, .slice C p.npre.length a, .slice D p.nsuf.length b, .int .i64 p.num.prim, .int .i64 p.num.sec, .int .i64 p.num.minInt, .int .i64 p.num.minFrac, .int .i64 p.num.maxFrac] : List Value).toArray 34))
  generalize w.alloc (.cells ([.string ⟨r.name.toArray⟩, .string ⟨r.pattern.toArray⟩, .string ⟨r.system.toArray⟩, .string ⟨r.decimal.toArray⟩, .string ⟨r.group.toArray⟩, .string ⟨r.minus.toArray⟩, .string ⟨r.percent.toArray⟩, .string ⟨r.currency.toArray⟩, .slice A p.pre.length c, .slice B p.suf.length d, .slice C p.npre.length a, .slice D p.nsuf.length b, .int .i64 p.num.prim, .int .i64 p.num.sec, .int .i64 p.num.minInt, .int .i64 p.num.minFrac, .int .i64 p.num.maxFrac] : List Value).toArray 34) = w1 at *
  generalize w.heap.size = lb at *
  go_upto_region 3 with fail
  go_wp2
  go_loopw [7, 8] (fun m i wr => ∃ k : Nat, k ≤ 10 ∧ i = .int .i64 k ∧ m = .int .i64 ((maxTo (locOf r p) k : Nat) : Int) ∧ Ext w1 wr) (fun _ i _ => 10 - (intOf i).toNat)
  case atStart => exact ⟨0, Nat.zero_le _, rfl, rfl, Ext.refl _⟩
  case round =>
    obtain ⟨k, hk, rfl, rfl, hx⟩ := hrel
    have HX := Lib.hid hx
    by_cases hlt : k < 10
    · have HDX := Lib.hid (HDG.out k hlt)
      have HMK := Lib.hid (HMS.out k)
      have hml := HML.out k
      have hdl := HDL.out k
      have q2 := (HB1.out.ext hx).cell (j := 2) (v := .string ⟨r.system.toArray⟩) rfl
      have i1 : (k : Int) < 10 := by omega
      generalize digZ (locOf r p) (k : Int) = t at *
      generalize maxTo (locOf r p) k = m at *
      clear hx
      go_wp2_with (go_at_call 56; with_reducible refine (HDX.out _).mono ?_; rintro e w2 ⟨rfl, hx2⟩)
      go_roundw
      case rel => exact ⟨k + 1, by omega, by go_num, by rw [HMK.out]; exact congrArg (Value.int .i64) (by omega), HX.out.trans hx2⟩
      case measure => simp [intOf]; omega
    · have e : k = 10 := by omega
      subst e
      have hml := HML.out 10
      have HAX := Lib.hid (fun W hW => HAF.out W false (HX1.out.trans hW))
      have HAY := Lib.hid (fun W hW => HAF.out W true (HX1.out.trans hW))
      have HRL := Lib.hid (Ext.range_ hx HR1.out)
      have q3 := (HB1.out.ext hx).cell (j := 3) (v := .string ⟨r.decimal.toArray⟩) rfl
      generalize maxTo (locOf r p) 10 = mx at *
      generalize wideF (locOf r p) false = wf at *
      generalize wideF (locOf r p) true = wt at *
      obtain ⟨P, hP⟩ : ∃ P : Nat, P = (whole + rest) * mx := ⟨_, rfl⟩
      have hPl : P ≤ 130 * 4 := by rw [hP]; exact Nat.mul_le_mul (by omega) hml
      have hPi : ((whole : Int) + (rest : Int)) * (mx : Int) = (P : Int) := by rw [hP]; simp
      have HPI := Lib.hid hPi
      have HP := Lib.hid hP
      have w29 : IntKind.i64.wrap ((whole : Int) + (rest : Int)) = (whole : Int) + (rest : Int) := by rw [IntKind.wrap_i64]; omega
      have w31 : IntKind.i64.wrap (P : Int) = (P : Int) := by rw [IntKind.wrap_i64]; omega
      have w32 : IntKind.i64.wrap (max (wf : Int) (wt : Int) + (P : Int)) = max (wf : Int) (wt : Int) + (P : Int) := by rw [IntKind.wrap_i64]; omega
      have w37 : IntKind.i64.wrap (max (wf : Int) (wt : Int) + (P : Int) + (r.decimal.length : Int)) = max (wf : Int) (wt : Int) + (P : Int) + (r.decimal.length : Int) := by rw [IntKind.wrap_i64]; omega
      clear hx hP
      go_upto_region 6 with fail
      refine wp_region_noPanic ?_
      refine wp_region_held_drew (S := fun W => Ext w1 W ∧ W.rangeAt lb 0 [.string ⟨r.name.toArray⟩, .string ⟨r.pattern.toArray⟩, .string ⟨r.system.toArray⟩, .string ⟨r.decimal.toArray⟩, .string ⟨r.group.toArray⟩, .string ⟨r.minus.toArray⟩, .string ⟨r.percent.toArray⟩, .string ⟨r.currency.toArray⟩, .slice A p.pre.length c, .slice B p.suf.length d, .slice C p.npre.length a, .slice D p.nsuf.length b, .int .i64 p.num.prim, .int .i64 p.num.sec, .int .i64 p.num.minInt, .int .i64 p.num.minFrac, .int .i64 p.num.maxFrac] ∧ W.cell? ⟨lb, 3, none⟩ = some (.string ⟨r.decimal.toArray⟩)) (by kernel_rfl) ?_ (fun hHeld => ?_)
      · exact ⟨Ext.drew_ HX.out, HRL.out, q3⟩
      refine takeRow_ (cs := [.string ⟨r.name.toArray⟩, .string ⟨r.pattern.toArray⟩, .string ⟨r.system.toArray⟩, .string ⟨r.decimal.toArray⟩, .string ⟨r.group.toArray⟩, .string ⟨r.minus.toArray⟩, .string ⟨r.percent.toArray⟩, .string ⟨r.currency.toArray⟩, .slice A p.pre.length c, .slice B p.suf.length d, .slice C p.npre.length a, .slice D p.nsuf.length b, .int .i64 p.num.prim, .int .i64 p.num.sec, .int .i64 p.num.minInt, .int .i64 p.num.minFrac, .int .i64 p.num.maxFrac]) 0 rfl (by kernel_rfl) (by kernel_rfl) (by kernel_rfl) (fun _ _ _ h => h) hHeld (by rfl) 34 ((.tmp 3)) rfl lb (0) rfl _ (fun _ h => h.2.1) Tryz.underlying34 rfl infoRL ?_
      try simp only [Act.put, List.setIfInBounds_toArray, List.set_cons_zero, List.set_cons_succ]
      refine takeRow_ (cs := [.string ⟨r.name.toArray⟩, .string ⟨r.pattern.toArray⟩, .string ⟨r.system.toArray⟩, .string ⟨r.decimal.toArray⟩, .string ⟨r.group.toArray⟩, .string ⟨r.minus.toArray⟩, .string ⟨r.percent.toArray⟩, .string ⟨r.currency.toArray⟩, .slice A p.pre.length c, .slice B p.suf.length d, .slice C p.npre.length a, .slice D p.nsuf.length b, .int .i64 p.num.prim, .int .i64 p.num.sec, .int .i64 p.num.minInt, .int .i64 p.num.minFrac, .int .i64 p.num.maxFrac]) 2 rfl (by kernel_rfl) (by kernel_rfl) (by kernel_rfl) (fun _ _ _ h => h) hHeld (by rfl) 34 ((.tmp 3)) rfl lb (0) rfl _ (fun _ h => h.2.1) Tryz.underlying34 rfl infoRL ?_
      try simp only [Act.put, List.setIfInBounds_toArray, List.set_cons_zero, List.set_cons_succ]
      refine take_ 5 (v := ?_) rfl (by kernel_rfl) (by kernel_rfl) (by kernel_rfl) (fun _ _ _ h => h) hHeld (by rfl) ?_ ?_
      rotate_left 1
      · (intro w hSw; (try dsimp only at hSw); go_simp; all_goals with_reducible rfl)
      try simp only [Act.put, List.setIfInBounds_toArray, List.set_cons_zero, List.set_cons_succ]
      refine take_ 6 (v := ?_) rfl (by kernel_rfl) (by kernel_rfl) (by kernel_rfl) (fun _ _ _ h => h) hHeld (by rfl) ?_ ?_
      rotate_left 1
      · (intro w hSw; (try dsimp only at hSw); go_simp; all_goals with_reducible rfl)
      try simp only [Act.put, List.setIfInBounds_toArray, List.set_cons_zero, List.set_cons_succ]
      refine take_ 7 (v := ?_) rfl (by kernel_rfl) (by kernel_rfl) (by kernel_rfl) (fun _ _ _ h => h) hHeld (by rfl) ?_ ?_
      rotate_left 1
      · (intro w hSw; (try dsimp only at hSw); go_simp; all_goals with_reducible rfl)
      try simp only [Act.put, List.setIfInBounds_toArray, List.set_cons_zero, List.set_cons_succ]
      refine take_ 8 (v := ?_) rfl (by kernel_rfl) (by kernel_rfl) (by kernel_rfl) (fun _ _ _ h => h) hHeld (by rfl) ?_ ?_
      rotate_left 1
      · (intro w hSw; (try dsimp only at hSw); go_simp; all_goals with_reducible rfl)
      try simp only [Act.put, List.setIfInBounds_toArray, List.set_cons_zero, List.set_cons_succ]
      refine take_ 9 (v := ?_) rfl (by kernel_rfl) (by kernel_rfl) (by kernel_rfl) (fun _ _ _ h => h) hHeld (by rfl) ?_ ?_
      rotate_left 1
      · (intro w hSw; (try dsimp only at hSw); go_simp; all_goals with_reducible rfl)
      try simp only [Act.put, List.setIfInBounds_toArray, List.set_cons_zero, List.set_cons_succ]
      refine take_ 11 (v := ?_) rfl (by kernel_rfl) (by kernel_rfl) (by kernel_rfl) (fun _ _ _ h => h) hHeld (by rfl) ?_ ?_
      rotate_left 1
      · (intro w hSw; (try dsimp only at hSw); go_simp; all_goals with_reducible rfl)
      try simp only [Act.put, List.setIfInBounds_toArray, List.set_cons_zero, List.set_cons_succ]
      refine take_ 12 (v := ?_) rfl (by kernel_rfl) (by kernel_rfl) (by kernel_rfl) (fun _ _ _ h => h) hHeld (by rfl) ?_ ?_
      rotate_left 1
      · (intro w hSw; (try dsimp only at hSw); go_simp; all_goals with_reducible rfl)
      try simp only [Act.put, List.setIfInBounds_toArray, List.set_cons_zero, List.set_cons_succ]
      refine take_ 13 (v := ?_) rfl (by kernel_rfl) (by kernel_rfl) (by kernel_rfl) (fun _ _ _ h => h) hHeld (by rfl) ?_ ?_
      rotate_left 1
      · (intro w hSw; (try dsimp only at hSw); go_simp; all_goals with_reducible rfl)
      try simp only [Act.put, List.setIfInBounds_toArray, List.set_cons_zero, List.set_cons_succ]
      refine take_ 14 (v := ?_) rfl (by kernel_rfl) (by kernel_rfl) (by kernel_rfl) (fun _ _ _ h => h) hHeld (by rfl) ?_ ?_
      rotate_left 1
      · (intro w hSw; (try dsimp only at hSw); go_simp; all_goals with_reducible rfl)
      try simp only [Act.put, List.setIfInBounds_toArray, List.set_cons_zero, List.set_cons_succ]
      refine only_ 1 rfl (by kernel_rfl) (fun K1 hK1 => ?_)
      go_simp
      go_at_call 74
      refine (HAX.out _ hHeld.1).mono ?_
      rintro e w2 ⟨rfl, hx2⟩
      refine hK1.out _ _ (⟨hHeld.1.trans hx2, Ext.range_ hx2 hHeld.2.1, Ext.cell_ hx2 hHeld.2.2⟩) (fun hHeld => ?_)
      clear hK1
      try simp only [Act.put, List.setIfInBounds_toArray, List.set_cons_zero, List.set_cons_succ]
      refine only_ 3 rfl (by kernel_rfl) (fun K1 hK1 => ?_)
      go_simp
      go_at_call 74
      refine (HAY.out _ hHeld.1).mono ?_
      rintro e w3 ⟨rfl, hx3⟩
      refine hK1.out _ _ (⟨hHeld.1.trans hx3, Ext.range_ hx3 hHeld.2.1, Ext.cell_ hx3 hHeld.2.2⟩) (fun hHeld => ?_)
      clear hK1
      try simp only [Act.put, List.setIfInBounds_toArray, List.set_cons_zero, List.set_cons_succ]
      refine take_ 4 (v := ?_) rfl (by kernel_rfl) (by kernel_rfl) (by kernel_rfl) (fun _ _ _ h => h) hHeld (by rfl) ?_ ?_
      rotate_left 1
      · (intro w hSw; (try dsimp only at hSw); go_simp; all_goals with_reducible rfl)
      try simp only [Act.put, List.setIfInBounds_toArray, List.set_cons_zero, List.set_cons_succ]
      refine take_ 10 (v := ?_) rfl (by kernel_rfl) (by kernel_rfl) (by kernel_rfl) (fun _ _ _ h => h) hHeld (by rfl) ?_ ?_
      rotate_left 1
      · (intro w hSw; (try dsimp only at hSw); go_simp; all_goals with_reducible rfl)
      try simp only [Act.put, List.setIfInBounds_toArray, List.set_cons_zero, List.set_cons_succ]
      refine take_ 15 (v := ?_) rfl (by kernel_rfl) (by kernel_rfl) (by kernel_rfl) (fun _ _ _ h => h) hHeld (by rfl) ?_ ?_
      rotate_left 1
      · (intro w hSw; (try dsimp only at hSw); go_simp; all_goals with_reducible rfl)
      try simp only [Act.put, List.setIfInBounds_toArray, List.set_cons_zero, List.set_cons_succ]
      refine take_ 16 (v := ?_) rfl (by kernel_rfl) (by kernel_rfl) (by kernel_rfl) (fun _ _ _ h => h) hHeld (by rfl) ?_ ?_
      rotate_left 1
      · (intro w hSw; (try dsimp only at hSw); go_simp; all_goals with_reducible rfl)
      try simp only [Act.put, List.setIfInBounds_toArray, List.set_cons_zero, List.set_cons_succ]
      refine wpAnyH_done (by kernel_rfl) ?_ _
      refine NoPanic.normal ?_
      have HH := Lib.hid hHeld.1
      have q12 := (HB1.out.ext hHeld.1).cell (j := 12) (v := .int .i64 p.num.prim) rfl
      have q4 := (HB1.out.ext hHeld.1).cell (j := 4) (v := .string ⟨r.group.toArray⟩) rfl
      clear hHeld w29 w31 w32 w37 q3 hPi
      by_cases hp0 : p.num.prim > 0
      · by_cases hw0 : (whole : Int) > 0
        · obtain ⟨Q, hQ⟩ : ∃ Q : Nat, Q = (whole - 1) * r.group.length := ⟨_, rfl⟩
          have hQl : Q ≤ 65 * 1000 := by rw [hQ]; exact Nat.mul_le_mul (by omega) hgc
          have hQi : ((whole : Int) - 1) * (r.group.length : Int) = (Q : Int) := by
            have e1 : (whole : Int) - 1 = ((whole - 1 : Nat) : Int) := by omega
            rw [e1, hQ]; simp
          have HQI := Lib.hid hQi
          have HB2 : Hid ((boundF (locOf r p) whole rest : Nat) = max wf wt + P + r.decimal.length + Q) := Lib.hid (by rw [HBO.out, if_pos hp0, HP.out, hQ])
          clear hQ
          go_wp2
          go_ret
          refine ⟨ret_int ?_, HX1.out.trans HH.out⟩
          rw [HB2.out]
          have h2 := HQI.out
          try simp only [h2]
          omega
        · have HB2 : Hid ((boundF (locOf r p) whole rest : Nat) = max wf wt + P + r.decimal.length) := Lib.hid (by
            have e : whole - 1 = 0 := by omega
            rw [HBO.out, HP.out, e]; simp)
          go_wp2
          go_ret
          refine ⟨ret_int ?_, HX1.out.trans HH.out⟩
          rw [HB2.out]
          omega
      · have HB2 : Hid ((boundF (locOf r p) whole rest : Nat) = max wf wt + P + r.decimal.length) := Lib.hid (by rw [HBO.out, if_neg hp0, HP.out]; simp)
        go_wp2
        go_ret
        refine ⟨ret_int ?_, HX1.out.trans HH.out⟩
        rw [HB2.out]
        omega
end Go.Proofs.YthoicieckodneaaGreatDoor.Loc
