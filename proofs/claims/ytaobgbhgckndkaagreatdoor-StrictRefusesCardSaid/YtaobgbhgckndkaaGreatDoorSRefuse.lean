/- The law StrictRefuses: what is refused is refused by both. (Printed by wip/gen/law17.py.) -/
import Derived.Test.YtaobgbhgckndkaaGreatDoorJStX
import Derived.Test.YtaobgbhgckndkaaGreatDoorJPat4
namespace Go.Proofs.YtaobgbhgckndkaaGreatDoor.Loc
open Go.RowKit Utf All Small Strs Build EncC Pat Cls Dec Go.Proofs.YtaobgbhgckndkaaGreatDoor.Sys
set_option linter.unusedVariables false
set_option linter.unusedSimpArgs false
theorem box_of' {w W : World} (h : Ext w W) (T : TypeId) (xs : List Value) : Box (W.alloc (.cells xs.toArray T)) W.heap.size T xs ∧ Ext W (W.alloc (.cells xs.toArray T)) ∧ w.heap.size ≤ W.heap.size := ⟨Box.new W T xs, Ext.alloc_ (Ext.refl _) _, h.size⟩
theorem u8_of {n : Int} (h : (Lit.int .u8 n).wf = true) : 0 ≤ n ∧ n ≤ 255 := by
  simp [Lit.wf, IntKind.min, IntKind.max, IntKind.signed, IntKind.bits] at h
  omega
theorem ext_sz (s : ByteArray) (i j : Nat) (h : j ≤ s.size) : (s.extract i j).size ≤ s.size := by
  rw [ByteArray.size_extract]; omega
def six {α : Type} (a b c d e f : α) : Nat → α
  | 0 => a
  | 1 => b
  | 2 => c
  | 3 => d
  | 4 => e
  | _ => f
theorem step_conv {ops : Array Oper} {o : Oper} {a : Act} {w : World} {K' : Act → World → Prop} {Q : Exit → Act → World → Prop} {X : Prop} (hgd : o.guard = none) (T U : TypeId) (x : Operand) (ho : o.op = .convert T U x) (y v : Value) (hx : a.eval x = y)
    (hr : (convert T U y).run Tryz.prog w = .ok v w) (h : K' (a.put o.dst v) w) : if Region.wanted o (yielded ops a.tmps) = true then o.wp Tryz.prog a w K' Q else X := by
  have hw : Region.wanted o (yielded ops a.tmps) = true := by simp [Region.wanted, hgd]
  rw [if_pos hw]
  have e : (execOp a.eval o).run Tryz.prog w = .ok (.value v) w := by
    unfold execOp
    rw [ho]
    simp only [hx]
    go_simp
  unfold Oper.wp
  rw [e]
  exact h
set_option maxHeartbeats 16000000 in
set_option maxRecDepth 1000000 in
theorem law_StrictRefuses (v0 v1 v2 v3 v4 v5 n : Int) (A0 B0 : Option Addr) (c0 e0 : Nat) (d0 : Dr) (s : List UInt8) (at_ u : Int) (w : World) (h0 : i64 v0) (h1 : i64 v1) (h2 : i64 v2) (h3 : i64 v3) (h4 : i64 v4) (h5 : i64 v5) (hn : i64 n) (hd : DrR w A0 B0 d0) (hi : DrI d0) (hs : s.length ≤ maxLen) (hat : i64 at_) (hu : 0 ≤ u ∧ u ≤ 255) (hT : Tabs w) :
    Calls Tryz.prog 7 #[.agg ([.int .i64 v0, .int .i64 v1, .int .i64 v2, .int .i64 v3, .int .i64 v4, .int .i64 v5] : List Value).toArray, .int .i64 n, .agg ([.bool d0.neg, .slice A0 d0.int.length c0, .bool d0.sep, .slice B0 d0.frac.length e0] : List Value).toArray, .string ⟨s.toArray⟩, .int .i64 at_, .int .u8 u] w fun e w' => e = .returned (.bool true) ∧ Below w.heap.size w w' := by
  obtain ⟨r, p, hK, hBG⟩ := begin17_ v0 v1 v2 v3 v4 v5 n h0 h1 h2 h3 h4 h5 hn
  obtain ⟨ddx, hdokx, hdix, hdfx, hGdx, hEx⟩ : ∃ dd : Dr, DrOk dd ∧ dd.int.length ≤ 8 ∧ dd.frac.length ≤ 4 ∧ (∀ W, Ext w W → Calls Tryz.prog 20 #[.agg ([.bool d0.neg, .slice A0 d0.int.length c0, .bool d0.sep, .slice B0 d0.frac.length e0] : List Value).toArray, .int .i64 8, .int .i64 4] W fun e w' => ∃ X Y cx cy, e = .returned (.agg ([.bool dd.neg, .slice X dd.int.length cx, .bool dd.sep, .slice Y dd.frac.length cy] : List Value).toArray) ∧ DrR w' X Y dd ∧ Okc X cx ∧ Okc Y cy ∧ Ext W w') ∧ dd = goodD d0 8 4 :=
    ⟨goodD d0 8 4, good_ok _ _ _, good_intl d0 8 4, good_fracl d0 8 4, fun W hW => ref14_good A0 B0 c0 e0 d0 8 4 W (hd.ext hW) hi (by decide) (by decide), rfl⟩
  have HGDx := Lib.hid hGdx
  have HOKx := Lib.hid hdokx
  clear hGdx hdokx
  have HK := Lib.hid hK.knd
  have HBG := Lib.hid hBG
  have HTW := Lib.hid hT
  obtain ⟨fs, hfs, hFW⟩ : ∃ fs : ByteArray, fs.size ≤ 40 ∧ ∀ W, Calls Tryz.prog 15 #[.string ⟨s.toArray⟩, .int .i64 40] W fun e w' => e = .returned (.string fs) ∧ W = w' := ⟨⟨(s.take 40).toArray⟩, by show (s.take 40).length ≤ 40; simp; omega, fun W => few_l s 40 W hs (by decide)⟩
  have HFW := Lib.hid hFW
  have HAT := Lib.hid hat
  have HU := Lib.hid hu
  have HLV : Hid (∀ W, Ext w W → Calls Tryz.prog 31 #[] W fun e w' => e = .returned (.bool true) ∧ Ext W w') := Lib.hid fun W hW => lives17 W (HTW.out.ext hW)
  obtain ⟨b1, b2, hx1⟩ := boxes2 w 23 43 [.int .i64 v0, .int .i64 v1, .int .i64 v2, .int .i64 v3, .int .i64 v4, .int .i64 v5] [.bool d0.neg, .slice A0 d0.int.length c0, .bool d0.sep, .slice B0 d0.frac.length e0]
  have HRG := Lib.hid b1.range
  have HBA := Lib.hid b2
  have HX1 := Lib.hid hx1
  clear hK hBG hd hi hT b1 b2 hx1 h0 h1 h2 h3 h4 h5 hn hEx hs hFW hat hu
  go_enter Tryz.func7, Tryz.ntmps7
  go_upto_region 1 with fail
  change Code.wp _ _ _ _ ((w.alloc (.cells ([.int .i64 v0, .int .i64 v1, .int .i64 v2, .int .i64 v3, .int .i64 v4, .int .i64 v5] : List Value).toArray 23)).alloc (.cells ([.bool d0.neg, .slice A0 d0.int.length c0, .bool d0.sep, .slice B0 d0.frac.length e0] : List Value).toArray 43))
  generalize (w.alloc (.cells ([.int .i64 v0, .int .i64 v1, .int .i64 v2, .int .i64 v3, .int .i64 v4, .int .i64 v5] : List Value).toArray 23)).alloc (.cells ([.bool d0.neg, .slice A0 d0.int.length c0, .bool d0.sep, .slice B0 d0.frac.length e0] : List Value).toArray 43) = w1 at *
  go_upto_region 2 with (first
    | (refine wpList_load_mid rfl 23 (.tmp 6) rfl w.heap.size 0 rfl [.int .i64 v0, .int .i64 v1, .int .i64 v2, .int .i64 v3, .int .i64 v4, .int .i64 v5] _ HRG.out Tryz.underlying23 rfl infoG ?_)
    | (go_at_call 26; with_reducible refine (HBG.out _ (HTW.out.ext HX1.out)).mono ?_; rintro e wb ⟨g, A, B, C, D, c, d, a, b, rfl, hlw, hxb⟩)
    | (refine wpList_store_fresh rfl 31 (.tmp 14) (.tmp 29) rfl ([.string ⟨r.name.toArray⟩, .string ⟨r.pattern.toArray⟩, .string ⟨r.system.toArray⟩, .string ⟨r.decimal.toArray⟩, .string ⟨r.group.toArray⟩, .string ⟨r.minus.toArray⟩, .string ⟨r.percent.toArray⟩, .string ⟨r.currency.toArray⟩, .slice A p.pre.length c, .slice B p.suf.length d, .slice C p.npre.length a, .slice D p.nsuf.length b, .int .i64 p.num.prim, .int .i64 p.num.sec, .int .i64 p.num.minInt, .int .i64 p.num.minFrac, .int .i64 p.num.maxFrac] : List Value).toArray 31 _ rfl rfl infoRL rfl (refL_one A B C D c d a b r p) ?_))
  have hxc : Ext wb (wb.alloc (.cells ([.string ⟨r.name.toArray⟩, .string ⟨r.pattern.toArray⟩, .string ⟨r.system.toArray⟩, .string ⟨r.decimal.toArray⟩, .string ⟨r.group.toArray⟩, .string ⟨r.minus.toArray⟩, .string ⟨r.percent.toArray⟩, .string ⟨r.currency.toArray⟩, .slice A p.pre.length c, .slice B p.suf.length d, .slice C p.npre.length a, .slice D p.nsuf.length b, .int .i64 p.num.prim, .int .i64 p.num.sec, .int .i64 p.num.minInt, .int .i64 p.num.minFrac, .int .i64 p.num.maxFrac] : List Value).toArray 31)) := Ext.alloc_ (Ext.refl _) _
  have HW := Lib.hid hlw
  have HXB := Lib.hid (HX1.out.trans (hxb.trans hxc))
  have HXS := Lib.hid (hxb.trans hxc)
  clear hlw hxb hxc
  generalize wb.alloc (.cells ([.string ⟨r.name.toArray⟩, .string ⟨r.pattern.toArray⟩, .string ⟨r.system.toArray⟩, .string ⟨r.decimal.toArray⟩, .string ⟨r.group.toArray⟩, .string ⟨r.minus.toArray⟩, .string ⟨r.percent.toArray⟩, .string ⟨r.currency.toArray⟩, .slice A p.pre.length c, .slice B p.suf.length d, .slice C p.npre.length a, .slice D p.nsuf.length b, .int .i64 p.num.prim, .int .i64 p.num.sec, .int .i64 p.num.minInt, .int .i64 p.num.minFrac, .int .i64 p.num.maxFrac] : List Value).toArray 31) = w3 at *
  generalize wb.heap.size = lb at *
  have HRA := Lib.hid (HBA.out.ext HXS.out).range
  generalize hdb : w.heap.size + 1 = db0 at *
  clear hdb
  have HRL3 := Lib.hid HW.out.range
  go_upto_region 4 with fail
  refine wp_region_noPanic ?_
  refine wp_region_held_drew (S := fun W => Ext w3 W ∧ W.rangeAt lb 0 [.string ⟨r.name.toArray⟩, .string ⟨r.pattern.toArray⟩, .string ⟨r.system.toArray⟩, .string ⟨r.decimal.toArray⟩, .string ⟨r.group.toArray⟩, .string ⟨r.minus.toArray⟩, .string ⟨r.percent.toArray⟩, .string ⟨r.currency.toArray⟩, .slice A p.pre.length c, .slice B p.suf.length d, .slice C p.npre.length a, .slice D p.nsuf.length b, .int .i64 p.num.prim, .int .i64 p.num.sec, .int .i64 p.num.minInt, .int .i64 p.num.minFrac, .int .i64 p.num.maxFrac] ∧ W.rangeAt db0 0 [.bool d0.neg, .slice A0 d0.int.length c0, .bool d0.sep, .slice B0 d0.frac.length e0]) (by kernel_rfl) ?_ (fun hHeld => ?_)
  · exact ⟨Ext.drew_ (Ext.refl _), HRL3.out, HRA.out⟩
  refine takeRow_ (cs := [.string ⟨r.name.toArray⟩, .string ⟨r.pattern.toArray⟩, .string ⟨r.system.toArray⟩, .string ⟨r.decimal.toArray⟩, .string ⟨r.group.toArray⟩, .string ⟨r.minus.toArray⟩, .string ⟨r.percent.toArray⟩, .string ⟨r.currency.toArray⟩, .slice A p.pre.length c, .slice B p.suf.length d, .slice C p.npre.length a, .slice D p.nsuf.length b, .int .i64 p.num.prim, .int .i64 p.num.sec, .int .i64 p.num.minInt, .int .i64 p.num.minFrac, .int .i64 p.num.maxFrac]) 0 rfl (by kernel_rfl) (by kernel_rfl) (by kernel_rfl) (fun _ _ _ h => h) hHeld (by rfl) 31 ((.tmp 14)) rfl lb (0) rfl _ (fun _ h => h.2.1) Tryz.underlying31 rfl infoRL ?_
  try simp only [Act.put, List.setIfInBounds_toArray, List.set_cons_zero, List.set_cons_succ]
  refine takeRow_ (cs := [.bool d0.neg, .slice A0 d0.int.length c0, .bool d0.sep, .slice B0 d0.frac.length e0]) 1 rfl (by kernel_rfl) (by kernel_rfl) (by kernel_rfl) (fun _ _ _ h => h) hHeld (by rfl) 43 ((.tmp 8)) rfl db0 (0) rfl _ (fun _ h => h.2.2) Tryz.underlying43 rfl infoD14 ?_
  try simp only [Act.put, List.setIfInBounds_toArray, List.set_cons_zero, List.set_cons_succ]
  refine only_ 2 rfl (by kernel_rfl) (fun K1 hK1 => ?_)
  go_simp
  go_at_call 20
  refine (HGDx.out _ (HXB.out.trans hHeld.1)).mono ?_
  rintro e wg ⟨Xx, Yx, cxx, cyx, rfl, hdr, oX, oY, hxg⟩
  refine hK1.out _ _ (⟨hHeld.1.trans hxg, Ext.range_ hxg hHeld.2.1, Ext.range_ hxg hHeld.2.2⟩) (fun hHeld => ?_)
  clear hK1
  try simp only [Act.put, List.setIfInBounds_toArray, List.set_cons_zero, List.set_cons_succ]
  refine only_ 3 rfl (by kernel_rfl) (fun K1 hK1 => ?_)
  go_simp
  go_at_call 23
  refine ((HW.out.ext hHeld.1).rtext HK.out hdr oX oY HOKx.out (by omega) (by omega)).mono ?_
  rintro e wt ⟨rfl, hxt⟩
  refine hK1.out _ _ (⟨hHeld.1.trans hxt, Ext.range_ hxt hHeld.2.1, Ext.range_ hxt hHeld.2.2⟩) (fun hHeld => ?_)
  clear hK1
  try simp only [Act.put, List.setIfInBounds_toArray, List.set_cons_zero, List.set_cons_succ]
  refine take_ 4 (v := ?_) rfl (by kernel_rfl) (by kernel_rfl) (by kernel_rfl) (fun _ _ _ h => h) hHeld (by rfl) ?_ ?_
  rotate_left 1
  · (intro w hSw; (try dsimp only at hSw); go_simp; all_goals with_reducible rfl)
  try simp only [Act.put, List.setIfInBounds_toArray, List.set_cons_zero, List.set_cons_succ]
  refine wpAnyH_done (by kernel_rfl) ?_ _
  refine NoPanic.normal ?_
  have HX4 := Lib.hid hHeld.1
  clear hHeld hdr oX oY hxg hxt HGDx HRG HRA HBA HX1 HBG HRL3
  have htl : (textI (itemsF (locOf r p) ddx)).length ≤ 480 := by have := text_small HK.out.both ddx; omega
  have htb : (⟨(textI (itemsF (locOf r p) ddx)).toArray⟩ : ByteArray).size ≤ 480 := htl
  have HWT := Lib.hid (HW.out.ext HX4.out)
  have HXT := Lib.hid (HXB.out.trans HX4.out)
  clear htl HW HXB HXS HX4
  generalize (⟨(textI (itemsF (locOf r p) ddx)).toArray⟩ : ByteArray) = tb at *
  have hka := aroundF_bd at_ ((tb.size : Int) + 1) (by omega)
  obtain ⟨kk, hkk⟩ : ∃ kk : Nat, aroundF at_ ((tb.size : Int) + 1) = (kk : Int) := ⟨(aroundF at_ ((tb.size : Int) + 1)).toNat, by omega⟩
  have hkl : kk ≤ tb.size := by omega
  have HA1 : Hid (∀ W, Calls Tryz.prog 25 #[.int .i64 at_, .int .i64 ((tb.size : Int) + 1)] W fun e w' => e = .returned (.int .i64 (kk : Int)) ∧ W = w') := Lib.hid fun W => by
    have hh := around at_ ((tb.size : Int) + 1) W HAT.out.1 HAT.out.2 (by omega) (by omega)
    rwa [hkk] at hh
  have hja := aroundF_bd at_ 6 (by omega)
  obtain ⟨jj, hjj⟩ : ∃ jj : Nat, aroundF at_ 6 = (jj : Int) := ⟨(aroundF at_ 6).toNat, by omega⟩
  have hjl : jj < 6 := by omega
  have HA6 : Hid (∀ W, Calls Tryz.prog 25 #[.int .i64 at_, .int .i64 6] W fun e w' => e = .returned (.int .i64 (jj : Int)) ∧ W = w') := Lib.hid fun W => by
    have hh := around at_ 6 W HAT.out.1 HAT.out.2 (by omega) (by omega)
    rwa [hjj] at hh
  clear hka hkk hja hjj HAT
  go_upto_region 5 with fail
  go_upto_region 6 with (go_at_call 25; with_reducible refine (HA1.out _).mono ?_; rintro e wz ⟨rfl, rfl⟩)
  have q3 := HWT.out.box.cell (j := 3) (v := .string ⟨r.decimal.toArray⟩) rfl
  have q4 := HWT.out.box.cell (j := 4) (v := .string ⟨r.group.toArray⟩) rfl
  have q5 := HWT.out.box.cell (j := 5) (v := .string ⟨r.minus.toArray⟩) rfl
  go_upto_region 7 with fail
  clear q3 q4 q5
  change Code.wp _ _ _ _ (wt.alloc (.cells ([.string ⟨r.group.toArray⟩, .string ⟨r.decimal.toArray⟩, .string ⟨r.minus.toArray⟩, .string ⟨#[204, 129]⟩, .string ⟨#[48]⟩, .string ⟨#[120]⟩] : List Value).toArray 9))
  have hrs := row_new wt [.string ⟨r.group.toArray⟩, .string ⟨r.decimal.toArray⟩, .string ⟨r.minus.toArray⟩, .string ⟨#[204, 129]⟩, .string ⟨#[48]⟩, .string ⟨#[120]⟩] 9
  obtain ⟨mo, hmo, hms⟩ : ∃ mo : ByteArray, (wt.alloc (.cells ([.string ⟨r.group.toArray⟩, .string ⟨r.decimal.toArray⟩, .string ⟨r.minus.toArray⟩, .string ⟨#[204, 129]⟩, .string ⟨#[48]⟩, .string ⟨#[120]⟩] : List Value).toArray 9)).cell? ⟨wt.heap.size, jj, none⟩ = some (.string mo) ∧ mo.size ≤ 1000 := by
    have hj : jj = 0 ∨ jj = 1 ∨ jj = 2 ∨ jj = 3 ∨ jj = 4 ∨ jj = 5 := by omega
    rcases hj with rfl | rfl | rfl | rfl | rfl | rfl
    · exact ⟨_, hrs.cell00 rfl, HK.out.both.may.b.grp⟩
    · exact ⟨_, hrs.cell00 rfl, HK.out.both.may.b.dec⟩
    · exact ⟨_, hrs.cell00 rfl, HK.out.both.may.b.min⟩
    · exact ⟨_, hrs.cell00 rfl, by decide⟩
    · exact ⟨_, hrs.cell00 rfl, by decide⟩
    · exact ⟨_, hrs.cell00 rfl, by decide⟩
  have hx6 : Ext wt (wt.alloc (.cells ([.string ⟨r.group.toArray⟩, .string ⟨r.decimal.toArray⟩, .string ⟨r.minus.toArray⟩, .string ⟨#[204, 129]⟩, .string ⟨#[48]⟩, .string ⟨#[120]⟩] : List Value).toArray 9)) := Ext.alloc_ (Ext.refl _) _
  have HW6 := Lib.hid (HWT.out.ext hx6)
  have HX6 := Lib.hid (HXT.out.trans hx6)
  clear hrs hx6 HWT HXT
  generalize wt.alloc (.cells ([.string ⟨r.group.toArray⟩, .string ⟨r.decimal.toArray⟩, .string ⟨r.minus.toArray⟩, .string ⟨#[204, 129]⟩, .string ⟨#[48]⟩, .string ⟨#[120]⟩] : List Value).toArray 9) = w6 at *
  generalize wt.heap.size = sb6 at *
  have HMO := Lib.hid hmo
  obtain ⟨T1, hT1, hs1⟩ : ∃ T : ByteArray, tb.extract 0 kk = T ∧ T.size ≤ 480 := ⟨_, rfl, by have := ext_sz tb 0 kk hkl; omega⟩
  obtain ⟨T3, hT3, hs3⟩ : ∃ T : ByteArray, tb.extract kk tb.size = T ∧ T.size ≤ 480 := ⟨_, rfl, by have := ext_sz tb kk tb.size (Nat.le_refl _); omega⟩
  obtain ⟨T4, hT4, hs4⟩ : ∃ T : ByteArray, T1 ++ mo = T ∧ T.size ≤ 1480 := ⟨_, rfl, by rw [ByteArray.size_append]; omega⟩
  obtain ⟨T5, hT5, hs5⟩ : ∃ T : ByteArray, T4 ++ T3 = T ∧ T.size ≤ 1960 := ⟨_, rfl, by rw [ByteArray.size_append]; omega⟩
  obtain ⟨T6, hT6, hs6⟩ : ∃ T : ByteArray, tb ++ tb = T ∧ T.size ≤ 960 := ⟨_, rfl, by rw [ByteArray.size_append]; omega⟩
  have j4 : (9223372036854775807 < T1.size + mo.size) = False := eq_false (by omega)
  have j5 : (9223372036854775807 < T4.size + T3.size) = False := eq_false (by omega)
  have j6 : (9223372036854775807 < tb.size + tb.size) = False := eq_false (by omega)
  have z1 : (0 : Int) ≤ (kk : Int) := by omega
  have z2 : (kk : Int) ≤ (tb.size : Int) := by omega
  have z3 : (0 : Int) ≤ (jj : Int) := by omega
  have z4 : (jj : Int) < 6 := by omega
  refine wp_region_noPanic ?_
  refine wp_region_held_drew (S := fun W => Ext w6 W ∧ W.cell? ⟨sb6, jj, none⟩ = some (.string mo)) (by kernel_rfl) ?_ (fun hHeld => ?_)
  · exact ⟨Ext.drew_ (Ext.refl _), HMO.out⟩
  refine take_ 0 (v := ?_) rfl (by kernel_rfl) (by kernel_rfl) (by kernel_rfl) (fun _ _ _ h => h) hHeld (by rfl) ?_ ?_
  rotate_left 1
  · (intro w hSw; (try dsimp only at hSw); go_simp; all_goals with_reducible rfl)
  try simp only [Act.put, List.setIfInBounds_toArray, List.set_cons_zero, List.set_cons_succ]
  refine take_ 2 (v := ?_) rfl (by kernel_rfl) (by kernel_rfl) (by kernel_rfl) (fun _ _ _ h => h) hHeld (by rfl) ?_ ?_
  rotate_left 1
  · (intro w hSw; (try dsimp only at hSw); go_simp; all_goals with_reducible rfl)
  try simp only [Act.put, List.setIfInBounds_toArray, List.set_cons_zero, List.set_cons_succ]
  refine take_ 3 (v := ?_) rfl (by kernel_rfl) (by kernel_rfl) (by kernel_rfl) (fun _ _ _ h => h) hHeld (by rfl) ?_ ?_
  rotate_left 1
  · (intro w hSw; (try dsimp only at hSw); go_simp; all_goals with_reducible rfl)
  try simp only [Act.put, List.setIfInBounds_toArray, List.set_cons_zero, List.set_cons_succ]
  refine take_ 4 (v := ?_) rfl (by kernel_rfl) (by kernel_rfl) (by kernel_rfl) (fun _ _ _ h => h) hHeld (by rfl) ?_ ?_
  rotate_left 1
  · (intro w hSw; (try dsimp only at hSw); go_simp; all_goals with_reducible rfl)
  try simp only [Act.put, List.setIfInBounds_toArray, List.set_cons_zero, List.set_cons_succ]
  refine take_ 5 (v := ?_) rfl (by kernel_rfl) (by kernel_rfl) (by kernel_rfl) (fun _ _ _ h => h) hHeld (by rfl) ?_ ?_
  rotate_left 1
  · (intro w hSw; (try dsimp only at hSw); go_simp; all_goals with_reducible rfl)
  try simp only [Act.put, List.setIfInBounds_toArray, List.set_cons_zero, List.set_cons_succ]
  refine take_ 6 (v := ?_) rfl (by kernel_rfl) (by kernel_rfl) (by kernel_rfl) (fun _ _ _ h => h) hHeld (by rfl) ?_ ?_
  rotate_left 1
  · (intro w hSw; (try dsimp only at hSw); go_simp; all_goals with_reducible rfl)
  try simp only [Act.put, List.setIfInBounds_toArray, List.set_cons_zero, List.set_cons_succ]
  refine take_ 7 (v := ?_) rfl (by kernel_rfl) (by kernel_rfl) (by kernel_rfl) (fun _ _ _ h => h) hHeld (by rfl) ?_ ?_
  rotate_left 1
  · (intro w hSw; (try dsimp only at hSw); go_simp; all_goals with_reducible rfl)
  try simp only [Act.put, List.setIfInBounds_toArray, List.set_cons_zero, List.set_cons_succ]
  refine take_ 8 (v := ?_) rfl (by kernel_rfl) (by kernel_rfl) (by kernel_rfl) (fun _ _ _ h => h) hHeld (by rfl) ?_ ?_
  rotate_left 1
  · (intro w hSw; (try dsimp only at hSw); go_simp; all_goals with_reducible rfl)
  try simp only [Act.put, List.setIfInBounds_toArray, List.set_cons_zero, List.set_cons_succ]
  refine take_ 9 (v := ?_) rfl (by kernel_rfl) (by kernel_rfl) (by kernel_rfl) (fun _ _ _ h => h) hHeld (by rfl) ?_ ?_
  rotate_left 1
  · (intro w hSw; (try dsimp only at hSw); go_simp; all_goals with_reducible rfl)
  try simp only [Act.put, List.setIfInBounds_toArray, List.set_cons_zero, List.set_cons_succ]
  refine take_ 14 (v := ?_) rfl (by kernel_rfl) (by kernel_rfl) (by kernel_rfl) (fun _ _ _ h => h) hHeld (by rfl) ?_ ?_
  rotate_left 1
  · (intro w hSw; (try dsimp only at hSw); go_simp; all_goals with_reducible rfl)
  try simp only [Act.put, List.setIfInBounds_toArray, List.set_cons_zero, List.set_cons_succ]
  refine take_ 15 (v := ?_) rfl (by kernel_rfl) (by kernel_rfl) (by kernel_rfl) (fun _ _ _ h => h) hHeld (by rfl) ?_ ?_
  rotate_left 1
  · (intro w hSw; (try dsimp only at hSw); go_simp; all_goals with_reducible rfl)
  try simp only [Act.put, List.setIfInBounds_toArray, List.set_cons_zero, List.set_cons_succ]
  refine take_ 16 (v := ?_) rfl (by kernel_rfl) (by kernel_rfl) (by kernel_rfl) (fun _ _ _ h => h) hHeld (by rfl) ?_ ?_
  rotate_left 1
  · (intro w hSw; (try dsimp only at hSw); go_simp; all_goals with_reducible rfl)
  try simp only [Act.put, List.setIfInBounds_toArray, List.set_cons_zero, List.set_cons_succ]
  refine take_ 18 (v := ?_) rfl (by kernel_rfl) (by kernel_rfl) (by kernel_rfl) (fun _ _ _ h => h) hHeld (by rfl) ?_ ?_
  rotate_left 1
  · (intro w hSw; (try dsimp only at hSw); go_simp; all_goals with_reducible rfl)
  try simp only [Act.put, List.setIfInBounds_toArray, List.set_cons_zero, List.set_cons_succ]
  refine take_ 19 (v := ?_) rfl (by kernel_rfl) (by kernel_rfl) (by kernel_rfl) (fun _ _ _ h => h) hHeld (by rfl) ?_ ?_
  rotate_left 1
  · (intro w hSw; (try dsimp only at hSw); go_simp; all_goals with_reducible rfl)
  try simp only [Act.put, List.setIfInBounds_toArray, List.set_cons_zero, List.set_cons_succ]
  refine take_ 20 (v := ?_) rfl (by kernel_rfl) (by kernel_rfl) (by kernel_rfl) (fun _ _ _ h => h) hHeld (by rfl) ?_ ?_
  rotate_left 1
  · (intro w hSw; (try dsimp only at hSw); go_simp; all_goals with_reducible rfl)
  try simp only [Act.put, List.setIfInBounds_toArray, List.set_cons_zero, List.set_cons_succ]
  refine only_ 1 rfl (by kernel_rfl) (fun K1 hK1 => ?_)
  go_simp
  go_at_call 15
  refine (HFW.out _).mono ?_
  rintro e wz ⟨rfl, rfl⟩
  refine hK1.out _ _ (hHeld) (fun hHeld => ?_)
  clear hK1
  try simp only [Act.put, List.setIfInBounds_toArray, List.set_cons_zero, List.set_cons_succ]
  refine only_ 10 rfl (by kernel_rfl) (fun K1 hK1 => ?_)
  go_simp
  go_at_call 25
  refine (HA6.out _).mono ?_
  rintro e wz ⟨rfl, rfl⟩
  refine hK1.out _ _ (hHeld) (fun hHeld => ?_)
  clear hK1
  try simp only [Act.put, List.setIfInBounds_toArray, List.set_cons_zero, List.set_cons_succ]
  refine take_ 11 (v := ?_) rfl (by kernel_rfl) (by kernel_rfl) (by kernel_rfl) (fun _ _ _ h => h) hHeld (by rfl) ?_ ?_
  rotate_left 1
  · (intro w hSw; (try dsimp only at hSw); go_simp; all_goals with_reducible rfl)
  try simp only [Act.put, List.setIfInBounds_toArray, List.set_cons_zero, List.set_cons_succ]
  refine take_ 12 (v := ?_) rfl (by kernel_rfl) (by kernel_rfl) (by kernel_rfl) (fun _ _ _ h => h) hHeld (by rfl) ?_ ?_
  rotate_left 1
  · (intro w hSw; (try dsimp only at hSw); go_simp; all_goals with_reducible rfl)
  try simp only [Act.put, List.setIfInBounds_toArray, List.set_cons_zero, List.set_cons_succ]
  refine take_ 13 (v := ?_) rfl (by kernel_rfl) (by kernel_rfl) (by kernel_rfl) (fun _ _ _ h => h) hHeld (by rfl) ?_ ?_
  rotate_left 1
  · (intro w hSw; (try dsimp only at hSw); go_simp; all_goals with_reducible rfl)
  try simp only [Act.put, List.setIfInBounds_toArray, List.set_cons_zero, List.set_cons_succ]
  refine take_ 17 (v := ?_) rfl (by kernel_rfl) (by kernel_rfl) (by kernel_rfl) (fun _ _ _ h => h) hHeld (by rfl) ?_ ?_
  rotate_left 1
  · (intro w hSw; (try dsimp only at hSw); go_simp; all_goals with_reducible rfl)
  try simp only [Act.put, List.setIfInBounds_toArray, List.set_cons_zero, List.set_cons_succ]
  refine only_ 21 rfl (by kernel_rfl) (fun K1 hK1 => ?_)
  go_simp
  have hx7 : Ext w6 (w6.drew.alloc (.cells ([.string fs, .string T1, .string T5, .string T6] : List Value).toArray 9)) := Ext.alloc_ (Ext.drew_ (Ext.refl _)) _
  refine hK1.out _ _ (⟨hx7, Ext.cell_ hx7 HMO.out⟩) (fun hHeld => ?_)
  clear hK1
  try simp only [Act.put, List.setIfInBounds_toArray, List.set_cons_zero, List.set_cons_succ]
  refine take_ 22 (v := ?_) rfl (by kernel_rfl) (by kernel_rfl) (by kernel_rfl) (fun _ _ _ h => h) hHeld (by rfl) ?_ ?_
  rotate_left 1
  · (intro w hSw; (try dsimp only at hSw); go_simp; all_goals with_reducible rfl)
  try simp only [Act.put, List.setIfInBounds_toArray, List.set_cons_zero, List.set_cons_succ]
  refine wpAnyH_done (by kernel_rfl) ?_ _
  refine NoPanic.normal ?_
  go_upto_region 8 with fail
  change Code.wp _ _ _ _ ((w6.alloc (.cells ([.string fs, .string T1, .string T5, .string T6] : List Value).toArray 9)).drew)
  have hac : Acc 9 1 w6 (w6.alloc (.cells ([.string fs, .string T1, .string T5, .string T6] : List Value).toArray 9)).drew (some ⟨w6.heap.size, 0, none⟩) 4 4 [.string fs, .string T1, .string T5, .string T6] := (Acc.lit (Ext.refl _) [.string fs, .string T1, .string T5, .string T6] 4 rfl (by decide)).drew
  clear HFW HA1 HA6 HMO hmo hHeld hx7 z3 z4 j4 j5 j6 hT4 hT5 hT6 hT3
  generalize (w6.alloc (.cells ([.string fs, .string T1, .string T5, .string T6] : List Value).toArray 9)).drew = w7 at *
  generalize w6.heap.size = sb at *
  have hrs := hac.row
  have HAC := Lib.hid hac
  have hx7 : Ext w6 w7 := hac.ext
  clear hac
  have HW7 := Lib.hid (HW6.out.ext hx7)
  have HX7 := Lib.hid (HX6.out.trans hx7)
  have HAL4 : Hid (∀ i, i < 4 → ∃ sm : List UInt8, w7.cell? ⟨sb, i, none⟩ = some (.string ⟨sm.toArray⟩) ∧ sm.length ≤ 5000) := Lib.hid fun i hi => by
    have : i = 0 ∨ i = 1 ∨ i = 2 ∨ i = 3 := by omega
    rcases this with rfl | rfl | rfl | rfl
    · exact ⟨fs.data.toList, hrs.cell00 rfl, Nat.le_trans hfs (by decide)⟩
    · exact ⟨T1.data.toList, hrs.cell00 rfl, Nat.le_trans hs1 (by decide)⟩
    · exact ⟨T5.data.toList, hrs.cell00 rfl, Nat.le_trans hs5 (by decide)⟩
    · exact ⟨T6.data.toList, hrs.cell00 rfl, Nat.le_trans hs6 (by decide)⟩
  clear hx7 hrs
  by_cases hkk : kk < tb.size
  · have i1 : (kk : Int) < (tb.size : Int) := by omega
    obtain ⟨cb, hcb, hcs⟩ : ∃ cb : ByteArray, (⟨(bytesZ [u]).toArray⟩ : ByteArray) = cb ∧ cb.size = 1 := ⟨_, rfl, rfl⟩
    obtain ⟨T7, hT7, hs7⟩ : ∃ T : ByteArray, T1 ++ cb = T ∧ T.size ≤ 481 := ⟨_, rfl, by rw [ByteArray.size_append]; omega⟩
    obtain ⟨T8, hT8, hs8⟩ : ∃ T : ByteArray, tb.extract (kk + 1) tb.size = T ∧ T.size ≤ 480 := ⟨_, rfl, by have := ext_sz tb (kk + 1) tb.size (Nat.le_refl _); omega⟩
    obtain ⟨T9, hT9, hs9⟩ : ∃ T : ByteArray, T7 ++ T8 = T ∧ T.size ≤ 961 := ⟨_, rfl, by rw [ByteArray.size_append]; omega⟩
    have j7 : (9223372036854775807 < T1.size + 1) = False := eq_false (by omega)
    have j9 : (9223372036854775807 < T7.size + T8.size) = False := eq_false (by omega)
    have z5 : (kk : Int) + 1 ≤ (tb.size : Int) := by omega
    have z6 : (0 : Int) ≤ (kk : Int) + 1 := by omega
    have z7 : ((kk : Int) + 1).toNat = kk + 1 := by omega
    have z8 : IntKind.i64.wrap ((kk : Int) + 1) = (kk : Int) + 1 := by rw [IntKind.wrap_i64]; omega
    have HCV : Hid ((convert 55 9 (.slice (some ⟨w7.heap.size, 0, none⟩) 1 1)).run Tryz.prog (w7.alloc (.cells ([.int .u8 u] : List Value).toArray 5)).drew = .ok (.string cb) (w7.alloc (.cells ([.int .u8 u] : List Value).toArray 5)).drew) := Lib.hid (by
      rw [← hcb]
      exact run_bytes_str _ _ 1 [u] (row_new w7 [.int .u8 u] 5))
    go_upto_region 9 with fail
    refine wp_region_noPanic ?_
    refine wp_region_held_drew (S := fun W => Ext w6 W) (by kernel_rfl) ?_ (fun hHeld => ?_)
    · exact Ext.drew_ HAC.out.ext
    refine take_ 0 (v := ?_) rfl (by kernel_rfl) (by kernel_rfl) (by kernel_rfl) (fun _ _ _ h => h) hHeld (by rfl) ?_ ?_
    rotate_left 1
    · (intro w hSw; (try dsimp only at hSw); go_simp; all_goals with_reducible rfl)
    try simp only [Act.put, List.setIfInBounds_toArray, List.set_cons_zero, List.set_cons_succ]
    refine take_ 1 (v := ?_) rfl (by kernel_rfl) (by kernel_rfl) (by kernel_rfl) (fun _ _ _ h => h) hHeld (by rfl) ?_ ?_
    rotate_left 1
    · (intro w hSw; (try dsimp only at hSw); go_simp; all_goals with_reducible rfl)
    try simp only [Act.put, List.setIfInBounds_toArray, List.set_cons_zero, List.set_cons_succ]
    refine take_ 2 (v := ?_) rfl (by kernel_rfl) (by kernel_rfl) (by kernel_rfl) (fun _ _ _ h => h) hHeld (by rfl) ?_ ?_
    rotate_left 1
    · (intro w hSw; (try dsimp only at hSw); go_simp; all_goals with_reducible rfl)
    try simp only [Act.put, List.setIfInBounds_toArray, List.set_cons_zero, List.set_cons_succ]
    refine take_ 3 (v := ?_) rfl (by kernel_rfl) (by kernel_rfl) (by kernel_rfl) (fun _ _ _ h => h) hHeld (by rfl) ?_ ?_
    rotate_left 1
    · (intro w hSw; (try dsimp only at hSw); go_simp; all_goals with_reducible rfl)
    try simp only [Act.put, List.setIfInBounds_toArray, List.set_cons_zero, List.set_cons_succ]
    refine take_ 4 (v := ?_) rfl (by kernel_rfl) (by kernel_rfl) (by kernel_rfl) (fun _ _ _ h => h) hHeld (by rfl) ?_ ?_
    rotate_left 1
    · (intro w hSw; (try dsimp only at hSw); go_simp; all_goals with_reducible rfl)
    try simp only [Act.put, List.setIfInBounds_toArray, List.set_cons_zero, List.set_cons_succ]
    refine take_ 8 (v := ?_) rfl (by kernel_rfl) (by kernel_rfl) (by kernel_rfl) (fun _ _ _ h => h) hHeld (by rfl) ?_ ?_
    rotate_left 1
    · (intro w hSw; (try dsimp only at hSw); go_simp; all_goals with_reducible rfl)
    try simp only [Act.put, List.setIfInBounds_toArray, List.set_cons_zero, List.set_cons_succ]
    refine take_ 9 (v := ?_) rfl (by kernel_rfl) (by kernel_rfl) (by kernel_rfl) (fun _ _ _ h => h) hHeld (by rfl) ?_ ?_
    rotate_left 1
    · (intro w hSw; (try dsimp only at hSw); go_simp; all_goals with_reducible rfl)
    try simp only [Act.put, List.setIfInBounds_toArray, List.set_cons_zero, List.set_cons_succ]
    refine take_ 10 (v := ?_) rfl (by kernel_rfl) (by kernel_rfl) (by kernel_rfl) (fun _ _ _ h => h) hHeld (by rfl) ?_ ?_
    rotate_left 1
    · (intro w hSw; (try dsimp only at hSw); go_simp; all_goals with_reducible rfl)
    try simp only [Act.put, List.setIfInBounds_toArray, List.set_cons_zero, List.set_cons_succ]
    refine take_ 11 (v := ?_) rfl (by kernel_rfl) (by kernel_rfl) (by kernel_rfl) (fun _ _ _ h => h) hHeld (by rfl) ?_ ?_
    rotate_left 1
    · (intro w hSw; (try dsimp only at hSw); go_simp; all_goals with_reducible rfl)
    try simp only [Act.put, List.setIfInBounds_toArray, List.set_cons_zero, List.set_cons_succ]
    refine only_ 5 rfl (by kernel_rfl) (fun K1 hK1 => ?_)
    go_simp
    refine hK1.out _ _ (hHeld.trans (Ext.alloc_ (Ext.refl _) _)) (fun hHeld => ?_)
    clear hK1
    try simp only [Act.put, List.setIfInBounds_toArray, List.set_cons_zero, List.set_cons_succ]
    refine only_ 6 rfl (by kernel_rfl) (fun K1 hK1 => ?_)
    refine step_conv rfl 55 9 (.tmp 82) rfl _ (.string cb) (by rfl) HCV.out ?_
    refine hK1.out _ _ (hHeld) (fun hHeld => ?_)
    clear hK1
    try simp only [Act.put, List.setIfInBounds_toArray, List.set_cons_zero, List.set_cons_succ]
    refine take_ 7 (v := ?_) rfl (by kernel_rfl) (by kernel_rfl) (by kernel_rfl) (fun _ _ _ h => h) hHeld (by rfl) ?_ ?_
    rotate_left 1
    · (intro w hSw; (try dsimp only at hSw); go_simp; all_goals with_reducible rfl)
    try simp only [Act.put, List.setIfInBounds_toArray, List.set_cons_zero, List.set_cons_succ]
    refine take_ 12 (v := ?_) rfl (by kernel_rfl) (by kernel_rfl) (by kernel_rfl) (fun _ _ _ h => h) hHeld (by rfl) ?_ ?_
    rotate_left 1
    · (intro w hSw; (try dsimp only at hSw); go_simp; all_goals with_reducible rfl)
    try simp only [Act.put, List.setIfInBounds_toArray, List.set_cons_zero, List.set_cons_succ]
    refine only_ 13 rfl (by kernel_rfl) (fun K1 hK1 => ?_)
    go_simp
    refine hK1.out _ _ (hHeld.trans (Ext.alloc_ (Ext.refl _) _)) (fun hHeld => ?_)
    clear hK1
    try simp only [Act.put, List.setIfInBounds_toArray, List.set_cons_zero, List.set_cons_succ]
    refine only_ 14 rfl (by kernel_rfl) (fun K1 hK1 => ?_)
    refine step_app_drew ei_str rfl (.tmp 77) (.tmp 90) rfl w6 (w7.alloc (.cells ([.int .u8 u] : List Value).toArray 5)) (some ⟨sb, 0, none⟩) 4 4 _ (by simp [Act.eval, Act.put]) (HAC.out.alloc _) [.string T9] 1 1 _ (by simp [Act.eval, Act.put]; rfl) (by simp) rfl (by simp [Value.oneCell']) (by omega) (by unfold maxLen; omega) ?_
    intro A9 c9 w8 hA9 hB9 hg9
    refine hK1.out _ _ (hA9.ext) (fun hHeld => ?_)
    clear hK1
    try simp only [Act.put, List.setIfInBounds_toArray, List.set_cons_zero, List.set_cons_succ]
    refine take_ 15 (v := ?_) rfl (by kernel_rfl) (by kernel_rfl) (by kernel_rfl) (fun _ _ _ h => h) hHeld (by rfl) ?_ ?_
    rotate_left 1
    · (intro w hSw; (try dsimp only at hSw); go_simp; all_goals with_reducible rfl)
    try simp only [Act.put, List.setIfInBounds_toArray, List.set_cons_zero, List.set_cons_succ]
    refine wpAnyH_done (by kernel_rfl) ?_ _
    refine NoPanic.normal ?_
    clear hHeld hB9 hg9
    simp only [Nat.reduceAdd] at hA9 ⊢
    obtain ⟨sb9, rfl⟩ : ∃ b9, A9 = some ⟨b9, 0, none⟩ := by
      rcases hA9.own.2 with ⟨hv, hn⟩ | ⟨g9, cap, cur, hv, _⟩
      · exact absurd hn (by decide)
      · injection hv with h1 _ _; exact ⟨_, h1⟩
    have hr9 := hA9.row
    have HW8 := Lib.hid (HW6.out.ext hA9.ext)
    have HX8 := Lib.hid (HX6.out.trans hA9.ext)
    have HAL : Hid (∀ i, i < 5 → ∃ sm : List UInt8, w8.cell? ⟨sb9, i, none⟩ = some (.string ⟨sm.toArray⟩) ∧ sm.length ≤ 5000) := Lib.hid fun i hi => by
      have : i = 0 ∨ i = 1 ∨ i = 2 ∨ i = 3 ∨ i = 4 := by omega
      rcases this with rfl | rfl | rfl | rfl | rfl
      · exact ⟨fs.data.toList, hr9.cell00 rfl, Nat.le_trans hfs (by decide)⟩
      · exact ⟨T1.data.toList, hr9.cell00 rfl, Nat.le_trans hs1 (by decide)⟩
      · exact ⟨T5.data.toList, hr9.cell00 rfl, Nat.le_trans hs5 (by decide)⟩
      · exact ⟨T6.data.toList, hr9.cell00 rfl, Nat.le_trans hs6 (by decide)⟩
      · exact ⟨T9.data.toList, hr9.cell00 rfl, Nat.le_trans hs9 (by decide)⟩
    clear hr9 hA9 HAL4 HW7 HX7 HAC HW6 HX6 HCV hT1 hT7 hT8 hT9 hs1 hs3 hs4 hs5 hs6 hs7 hs8 hs9 hfs hcb hcs j7 j9 z5 z6 z7 z8
    go_wp2
    go_loopw [19] (fun i wr => ∃ m : Nat, m ≤ 5 ∧ i = .int .i64 m ∧ Ext w8 wr) (fun i _ => 5 - (intOf i).toNat)
    case atStart => exact ⟨0, Nat.zero_le _, rfl, Ext.refl _⟩
    case round =>
      obtain ⟨m, hm, rfl, hx⟩ := hrel
      by_cases hlm : m < 5
      · have k1 : (m : Int) < 5 := by omega
        have k2 : (0 : Int) ≤ (m : Int) := by omega
        obtain ⟨sm, hc8, hsl⟩ := HAL.out m hlm
        have hc9 := Ext.cell_ hx hc8
        have HCM := Lib.hid hc8
        have HPA : Hid (∀ W, Ext w8 W → Calls Tryz.prog 27 #[.pointer (some ⟨g, 0, none⟩), .string ⟨sm.toArray⟩] W fun e w' => ∃ X Y cx cy, e = .returned (.tuple #[.agg ([.bool (rdD (locOf r p) sm).neg, .slice X (rdD (locOf r p) sm).int.length cx, .bool (rdD (locOf r p) sm).sep, .slice Y (rdD (locOf r p) sm).frac.length cy] : List Value).toArray, .int .i64 (rdE (locOf r p) sm)]) ∧ DrR w' X Y (rdD (locOf r p) sm) ∧ Okc X cx ∧ Okc Y cy ∧ Ext W w') := Lib.hid fun W hW => (HW8.out.ext hW).parse HK.out hsl
        have HPB : Hid (∀ W, Ext w8 W → Calls Tryz.prog 28 #[.agg ([.string ⟨r.name.toArray⟩, .string ⟨r.pattern.toArray⟩, .string ⟨r.system.toArray⟩, .string ⟨r.decimal.toArray⟩, .string ⟨r.group.toArray⟩, .string ⟨r.minus.toArray⟩, .string ⟨r.percent.toArray⟩, .string ⟨r.currency.toArray⟩, .slice A p.pre.length c, .slice B p.suf.length d, .slice C p.npre.length a, .slice D p.nsuf.length b, .int .i64 p.num.prim, .int .i64 p.num.sec, .int .i64 p.num.minInt, .int .i64 p.num.minFrac, .int .i64 p.num.maxFrac] : List Value).toArray, .string ⟨sm.toArray⟩] W fun e w' => ∃ X Y cx cy, e = .returned (.tuple #[.agg ([.bool (rdD (locOf r p) sm).neg, .slice X (rdD (locOf r p) sm).int.length cx, .bool (rdD (locOf r p) sm).sep, .slice Y (rdD (locOf r p) sm).frac.length cy] : List Value).toArray, .int .i64 (rdE (locOf r p) sm)]) ∧ DrR w' X Y (rdD (locOf r p) sm) ∧ Okc X cx ∧ Okc Y cy ∧ Ext W w') := Lib.hid fun W hW => (HW8.out.ext hW).rparse HK.out hsl
        have HIS : Hid (∀ W, Ext w8 W → Calls Tryz.prog 30 #[.pointer (some ⟨g, 0, none⟩), .string ⟨sm.toArray⟩] W fun e w' => e = .returned (.bool (rdE (locOf r p) sm == 0)) ∧ Ext W w') := Lib.hid fun W hW => (HW8.out.ext hW).is HK.out hsl
        have HRS := Lib.hid (rd_small HK.out.both hsl)
        have HSM : Hid (∀ W X Y cx cy X' Y' cx' cy', DrR W X Y (rdD (locOf r p) sm) → DrR W X' Y' (rdD (locOf r p) sm) → Calls Tryz.prog 29 #[.agg ([.bool (rdD (locOf r p) sm).neg, .slice X (rdD (locOf r p) sm).int.length cx, .bool (rdD (locOf r p) sm).sep, .slice Y (rdD (locOf r p) sm).frac.length cy] : List Value).toArray, .agg ([.bool (rdD (locOf r p) sm).neg, .slice X' (rdD (locOf r p) sm).int.length cx', .bool (rdD (locOf r p) sm).sep, .slice Y' (rdD (locOf r p) sm).frac.length cy'] : List Value).toArray] W fun e w' => e = .returned (.bool true) ∧ Ext W w') := Lib.hid fun W X Y cx cy X' Y' cx' cy' h1 h2 => by
          have hh := ref14_same X Y X' Y' cx cy cx' cy' (rdD (locOf r p) sm) (rdD (locOf r p) sm) W h1 h2 (by have := HRS.out; unfold maxLen; omega) (by have := HRS.out; unfold maxLen; omega) (by have := HRS.out; unfold maxLen; omega) (by have := HRS.out; unfold maxLen; omega)
          rwa [decide_eq_true rfl] at hh
        have HXM := Lib.hid hx
        clear hsl hc8 HRS hx
        have hee : (rdE (locOf r p) sm != rdE (locOf r p) sm) = false := by simp
        have hbb : ((rdE (locOf r p) sm == 0) != (rdE (locOf r p) sm == 0)) = false := by simp
        generalize hz : (rdE (locOf r p) sm == 0) = ez at *
        generalize rdE (locOf r p) sm = re at *
        generalize rdD (locOf r p) sm = rd at *
        go_upto_region 14 with (first
          | (go_at_call 27; with_reducible refine (HPA.out _ HXM.out).mono ?_; rintro e w9 ⟨X, Y, cx, cy, rfl, hdr, oX, oY, hx9⟩)
          | (refine wpList_store_fresh rfl 58 (.tmp 20) (.tmp 105) rfl ([.bool rd.neg, .slice X rd.int.length cx, .bool rd.sep, .slice Y rd.frac.length cy] : List Value).toArray 58 _ rfl rfl infoD rfl (by simp [Value.oneCell']) ?_))
        have hb10 := Box.new w9 58 [.bool rd.neg, .slice X rd.int.length cx, .bool rd.sep, .slice Y rd.frac.length cy]
        have hx10 : Ext w9 (w9.alloc (.cells ([.bool rd.neg, .slice X rd.int.length cx, .bool rd.sep, .slice Y rd.frac.length cy] : List Value).toArray 58)) := Ext.alloc_ (Ext.refl _) _
        have HX10 := Lib.hid (HXM.out.trans (hx9.trans hx10))
        have HD10 := Lib.hid (hdr.ext hx10)
        have HR10 := Lib.hid hb10.range
        clear hdr oX oY hx9 hx10 hb10 HPA HXM hc9
        generalize w9.alloc (.cells ([.bool rd.neg, .slice X rd.int.length cx, .bool rd.sep, .slice Y rd.frac.length cy] : List Value).toArray 58) = w10 at *
        generalize w9.heap.size = xb at *
        have HRL := Lib.hid (Ext.range_ HX10.out HW8.out.range)
        have HC := Lib.hid (Ext.cell_ HX10.out HCM.out)
        refine wp_region_noPanic ?_
        refine wp_region_held_drew (S := fun W => Ext w10 W ∧ W.rangeAt lb 0 [.string ⟨r.name.toArray⟩, .string ⟨r.pattern.toArray⟩, .string ⟨r.system.toArray⟩, .string ⟨r.decimal.toArray⟩, .string ⟨r.group.toArray⟩, .string ⟨r.minus.toArray⟩, .string ⟨r.percent.toArray⟩, .string ⟨r.currency.toArray⟩, .slice A p.pre.length c, .slice B p.suf.length d, .slice C p.npre.length a, .slice D p.nsuf.length b, .int .i64 p.num.prim, .int .i64 p.num.sec, .int .i64 p.num.minInt, .int .i64 p.num.minFrac, .int .i64 p.num.maxFrac] ∧ W.cell? ⟨sb9, m, none⟩ = some (.string ⟨sm.toArray⟩)) (by kernel_rfl) ?_ (fun hHeld => ?_)
        · exact ⟨Ext.drew_ (Ext.refl _), HRL.out, HC.out⟩
        refine takeRow_ (cs := [.string ⟨r.name.toArray⟩, .string ⟨r.pattern.toArray⟩, .string ⟨r.system.toArray⟩, .string ⟨r.decimal.toArray⟩, .string ⟨r.group.toArray⟩, .string ⟨r.minus.toArray⟩, .string ⟨r.percent.toArray⟩, .string ⟨r.currency.toArray⟩, .slice A p.pre.length c, .slice B p.suf.length d, .slice C p.npre.length a, .slice D p.nsuf.length b, .int .i64 p.num.prim, .int .i64 p.num.sec, .int .i64 p.num.minInt, .int .i64 p.num.minFrac, .int .i64 p.num.maxFrac]) 0 rfl (by kernel_rfl) (by kernel_rfl) (by kernel_rfl) (fun _ _ _ h => h) hHeld (by rfl) 31 ((.tmp 14)) rfl lb (0) rfl _ (fun _ h => h.2.1) Tryz.underlying31 rfl infoRL ?_
        try simp only [Act.put, List.setIfInBounds_toArray, List.set_cons_zero, List.set_cons_succ]
        refine take_ 1 (v := ?_) rfl (by kernel_rfl) (by kernel_rfl) (by kernel_rfl) (fun _ _ _ h => h) hHeld (by rfl) ?_ ?_
        rotate_left 1
        · (intro w hSw; (try dsimp only at hSw); go_simp; all_goals with_reducible rfl)
        try simp only [Act.put, List.setIfInBounds_toArray, List.set_cons_zero, List.set_cons_succ]
        refine take_ 2 (v := ?_) rfl (by kernel_rfl) (by kernel_rfl) (by kernel_rfl) (fun _ _ _ h => h) hHeld (by rfl) ?_ ?_
        rotate_left 1
        · (intro w hSw; (try dsimp only at hSw); go_simp; all_goals with_reducible rfl)
        try simp only [Act.put, List.setIfInBounds_toArray, List.set_cons_zero, List.set_cons_succ]
        refine take_ 3 (v := ?_) rfl (by kernel_rfl) (by kernel_rfl) (by kernel_rfl) (fun _ _ _ h => h) hHeld (by rfl) ?_ ?_
        rotate_left 1
        · (intro w hSw; (try dsimp only at hSw); go_simp; all_goals with_reducible rfl)
        try simp only [Act.put, List.setIfInBounds_toArray, List.set_cons_zero, List.set_cons_succ]
        refine take_ 4 (v := ?_) rfl (by kernel_rfl) (by kernel_rfl) (by kernel_rfl) (fun _ _ _ h => h) hHeld (by rfl) ?_ ?_
        rotate_left 1
        · (intro w hSw; (try dsimp only at hSw); go_simp; all_goals with_reducible rfl)
        try simp only [Act.put, List.setIfInBounds_toArray, List.set_cons_zero, List.set_cons_succ]
        refine wpAnyH_ready (rs := [5, 9]) (by kernel_rfl) (by simp) (AllReadyH.cons rfl ?_ (AllReadyH.cons rfl ?_ AllReadyH.nil))
        · intro K1 hK1
          go_simp
          go_at_call 28
          refine (HPB.out _ (HX10.out.trans hHeld.1)).mono ?_
          rintro e w14 ⟨X', Y', cx', cy', rfl, hdr, oX, oY, hx14⟩
          refine hK1.out _ _ (⟨hHeld.1.trans hx14, Ext.range_ hx14 hHeld.2.1, Ext.cell_ hx14 hHeld.2.2⟩) (fun hHeld => ?_)
          clear hK1
          try simp only [Act.put, List.setIfInBounds_toArray, List.set_cons_zero, List.set_cons_succ]
          refine take_ 6 (v := ?_) rfl (by kernel_rfl) (by kernel_rfl) (by kernel_rfl) (fun _ _ _ h => h) hHeld (by rfl) ?_ ?_
          rotate_left 1
          · (intro w hSw; (try dsimp only at hSw); go_simp; all_goals with_reducible rfl)
          try simp only [Act.put, List.setIfInBounds_toArray, List.set_cons_zero, List.set_cons_succ]
          refine take_ 7 (v := ?_) rfl (by kernel_rfl) (by kernel_rfl) (by kernel_rfl) (fun _ _ _ h => h) hHeld (by rfl) ?_ ?_
          rotate_left 1
          · (intro w hSw; (try dsimp only at hSw); go_simp; all_goals with_reducible rfl)
          try simp only [Act.put, List.setIfInBounds_toArray, List.set_cons_zero, List.set_cons_succ]
          refine take_ 8 (v := ?_) rfl (by kernel_rfl) (by kernel_rfl) (by kernel_rfl) (fun _ _ _ h => h) hHeld (by rfl) ?_ ?_
          rotate_left 1
          · (intro w hSw; (try dsimp only at hSw); go_simp; all_goals with_reducible rfl)
          try simp only [Act.put, List.setIfInBounds_toArray, List.set_cons_zero, List.set_cons_succ]
          refine only_ 9 rfl (by kernel_rfl) (fun K1 hK1 => ?_)
          go_simp
          obtain ⟨hb15, hx15, hle15⟩ := box_of' hHeld.1 43 [.bool false, .slice none 0 0, .bool false, .slice none 0 0]
          have HB15 := Lib.hid hb15
          have HLE15 := Lib.hid hle15
          clear hb15 hle15
          refine hK1.out _ _ (⟨hHeld.1.trans hx15, Ext.range_ hx15 hHeld.2.1, Ext.cell_ hx15 hHeld.2.2⟩) (fun hHeld => ?_)
          clear hK1
          try simp only [Act.put, List.setIfInBounds_toArray, List.set_cons_zero, List.set_cons_succ]
          refine only_ 10 rfl (by kernel_rfl) (fun K1 hK1 => ?_)
          have hB16 : Box (((w14).alloc (.cells ([.bool false, .slice none 0 0, .bool false, .slice none 0 0] : List Value).toArray 43))) ((w14).heap.size) 43 [.bool false, .slice none 0 0, .bool false, .slice none 0 0] := (by first | exact HB15.out | exact HB15.out.ext hx14)
          have hD16 : DrR (((w14).alloc (.cells ([.bool false, .slice none 0 0, .bool false, .slice none 0 0] : List Value).toArray 43))) X' Y' rd := (by first | exact hdr | exact hdr.ext hx15)
          have hS16 : Ext w10 (((w14).alloc (.cells ([.bool false, .slice none 0 0, .bool false, .slice none 0 0] : List Value).toArray 43))) := hHeld.1
          refine step_row rfl 43 (.tmp 22) (.tmp 114) rfl ((w14).heap.size) ([.bool rd.neg, .slice X' rd.int.length cx', .bool rd.sep, .slice Y' rd.frac.length cy'] : List Value).toArray (by rfl) (by rfl) _ _ hB16 infoD14 rfl (by simp [Value.oneCell']) ?_
          have HBY := Lib.hid (hB16.set ([.bool rd.neg, .slice X' rd.int.length cx', .bool rd.sep, .slice Y' rd.frac.length cy'] : List Value).toArray)
          have HDY : Hid (DrR ((((w14).alloc (.cells ([.bool false, .slice none 0 0, .bool false, .slice none 0 0] : List Value).toArray 43))).setRow ((w14).heap.size) ([.bool rd.neg, .slice X' rd.int.length cx', .bool rd.sep, .slice Y' rd.frac.length cy'] : List Value).toArray) X' Y' rd) := Lib.hid ⟨ints_setRow hB16 hD16.int (by simp [isInt]) _, ints_setRow hB16 hD16.frac (by simp [isInt]) _⟩
          have hx16 : Ext w10 ((((w14).alloc (.cells ([.bool false, .slice none 0 0, .bool false, .slice none 0 0] : List Value).toArray 43))).setRow ((w14).heap.size) ([.bool rd.neg, .slice X' rd.int.length cx', .bool rd.sep, .slice Y' rd.frac.length cy'] : List Value).toArray) := Ext.setRow hS16 HLE15.out _
          clear hB16 hD16 hS16
          refine hK1.out _ _ (⟨hx16, Ext.range_ hx16 HRL.out, Ext.cell_ hx16 HC.out⟩) (fun hHeld => ?_)
          clear hK1
          try simp only [Act.put, List.setIfInBounds_toArray, List.set_cons_zero, List.set_cons_succ]
          refine take_ 11 (v := ?_) rfl (by kernel_rfl) (by kernel_rfl) (by kernel_rfl) (fun _ _ _ h => h) hHeld (by rfl) ?_ ?_
          rotate_left 1
          · (intro w hSw; (try dsimp only at hSw); go_simp; all_goals with_reducible rfl)
          try simp only [Act.put, List.setIfInBounds_toArray, List.set_cons_zero, List.set_cons_succ]
          refine wpAnyH_done (by kernel_rfl) ?_ _
          refine NoPanic.normal ?_
          have hRY : ((((((w14).alloc (.cells ([.bool false, .slice none 0 0, .bool false, .slice none 0 0] : List Value).toArray 43))).setRow ((w14).heap.size) ([.bool rd.neg, .slice X' rd.int.length cx', .bool rd.sep, .slice Y' rd.frac.length cy'] : List Value).toArray))).rangeAt ((w14).heap.size) 0 [.bool rd.neg, .slice X' rd.int.length cx', .bool rd.sep, .slice Y' rd.frac.length cy'] := HBY.out.range
          have hDX : DrR (((((w14).alloc (.cells ([.bool false, .slice none 0 0, .bool false, .slice none 0 0] : List Value).toArray 43))).setRow ((w14).heap.size) ([.bool rd.neg, .slice X' rd.int.length cx', .bool rd.sep, .slice Y' rd.frac.length cy'] : List Value).toArray)) X Y rd := HD10.out.ext hx16
          have hDY : DrR (((((w14).alloc (.cells ([.bool false, .slice none 0 0, .bool false, .slice none 0 0] : List Value).toArray 43))).setRow ((w14).heap.size) ([.bool rd.neg, .slice X' rd.int.length cx', .bool rd.sep, .slice Y' rd.frac.length cy'] : List Value).toArray)) X' Y' rd := HDY.out
          have hRX : ((((((w14).alloc (.cells ([.bool false, .slice none 0 0, .bool false, .slice none 0 0] : List Value).toArray 43))).setRow ((w14).heap.size) ([.bool rd.neg, .slice X' rd.int.length cx', .bool rd.sep, .slice Y' rd.frac.length cy'] : List Value).toArray))).rangeAt xb 0 [.bool rd.neg, .slice X rd.int.length cx, .bool rd.sep, .slice Y rd.frac.length cy] := Ext.range_ hx16 HR10.out
          have hCZ : ((((((w14).alloc (.cells ([.bool false, .slice none 0 0, .bool false, .slice none 0 0] : List Value).toArray 43))).setRow ((w14).heap.size) ([.bool rd.neg, .slice X' rd.int.length cx', .bool rd.sep, .slice Y' rd.frac.length cy'] : List Value).toArray))).cell? ⟨sb9, m, none⟩ = some (.string ⟨sm.toArray⟩) := Ext.cell_ hx16 HC.out
          have HX16 := Lib.hid (HX10.out.trans hx16)
          have HDX := Lib.hid hDX
          have HDYY := Lib.hid hDY
          have HRX := Lib.hid hRX
          have HRY := Lib.hid hRY
          have HCZ := Lib.hid hCZ
          clear hHeld hx16 HBY HDY hRY hDX hDY hRX hCZ hdr oX oY
          go_wp2_with (first | (refine wpList_load_mid_g (by rfl) 58 (.tmp 20) rfl xb 0 rfl [.bool rd.neg, .slice X rd.int.length cx, .bool rd.sep, .slice Y rd.frac.length cy] _ HRX.out Tryz.underlying58 rfl infoD ?_) | (refine wpList_load_mid_g (by rfl) 43 (.tmp 22) rfl ((w14).heap.size) 0 rfl [.bool rd.neg, .slice X' rd.int.length cx', .bool rd.sep, .slice Y' rd.frac.length cy'] _ HRY.out Tryz.underlying43 rfl infoD14 ?_) | (go_at_call 29; with_reducible refine (HSM.out _ X Y cx cy X' Y' cx' cy' HDX.out HDYY.out).mono ?_; rintro e w17 ⟨rfl, hx17⟩; have HX17 := Lib.hid (HX16.out.trans hx17); have hc17 := Ext.cell_ hx17 HCZ.out; clear hx17) | (go_at_call 30; with_reducible refine (HIS.out _ HX17.out).mono ?_; rintro e w18 ⟨rfl, hx18⟩))
          have HXE := Lib.hid (HX17.out.trans hx18)
          exact ⟨⟨m + 1, by omega, by go_num, HXE.out⟩, by simp [intOf]; omega⟩
        · intro K1 hK1
          go_simp
          obtain ⟨hb15, hx15, hle15⟩ := box_of' hHeld.1 43 [.bool false, .slice none 0 0, .bool false, .slice none 0 0]
          have HB15 := Lib.hid hb15
          have HLE15 := Lib.hid hle15
          clear hb15 hle15
          refine hK1.out _ _ (⟨hHeld.1.trans hx15, Ext.range_ hx15 hHeld.2.1, Ext.cell_ hx15 hHeld.2.2⟩) (fun hHeld => ?_)
          clear hK1
          try simp only [Act.put, List.setIfInBounds_toArray, List.set_cons_zero, List.set_cons_succ]
          refine only_ 5 rfl (by kernel_rfl) (fun K1 hK1 => ?_)
          go_simp
          go_at_call 28
          refine (HPB.out _ (HX10.out.trans hHeld.1)).mono ?_
          rintro e w14 ⟨X', Y', cx', cy', rfl, hdr, oX, oY, hx14⟩
          refine hK1.out _ _ (⟨hHeld.1.trans hx14, Ext.range_ hx14 hHeld.2.1, Ext.cell_ hx14 hHeld.2.2⟩) (fun hHeld => ?_)
          clear hK1
          try simp only [Act.put, List.setIfInBounds_toArray, List.set_cons_zero, List.set_cons_succ]
          refine take_ 6 (v := ?_) rfl (by kernel_rfl) (by kernel_rfl) (by kernel_rfl) (fun _ _ _ h => h) hHeld (by rfl) ?_ ?_
          rotate_left 1
          · (intro w hSw; (try dsimp only at hSw); go_simp; all_goals with_reducible rfl)
          try simp only [Act.put, List.setIfInBounds_toArray, List.set_cons_zero, List.set_cons_succ]
          refine take_ 7 (v := ?_) rfl (by kernel_rfl) (by kernel_rfl) (by kernel_rfl) (fun _ _ _ h => h) hHeld (by rfl) ?_ ?_
          rotate_left 1
          · (intro w hSw; (try dsimp only at hSw); go_simp; all_goals with_reducible rfl)
          try simp only [Act.put, List.setIfInBounds_toArray, List.set_cons_zero, List.set_cons_succ]
          refine take_ 8 (v := ?_) rfl (by kernel_rfl) (by kernel_rfl) (by kernel_rfl) (fun _ _ _ h => h) hHeld (by rfl) ?_ ?_
          rotate_left 1
          · (intro w hSw; (try dsimp only at hSw); go_simp; all_goals with_reducible rfl)
          try simp only [Act.put, List.setIfInBounds_toArray, List.set_cons_zero, List.set_cons_succ]
          refine only_ 10 rfl (by kernel_rfl) (fun K1 hK1 => ?_)
          have hB16 : Box (w14) ((w10).heap.size) 43 [.bool false, .slice none 0 0, .bool false, .slice none 0 0] := (by first | exact HB15.out | exact HB15.out.ext hx14)
          have hD16 : DrR (w14) X' Y' rd := (by first | exact hdr | exact hdr.ext hx15)
          have hS16 : Ext w10 (w14) := hHeld.1
          refine step_row rfl 43 (.tmp 22) (.tmp 114) rfl ((w10).heap.size) ([.bool rd.neg, .slice X' rd.int.length cx', .bool rd.sep, .slice Y' rd.frac.length cy'] : List Value).toArray (by rfl) (by rfl) _ _ hB16 infoD14 rfl (by simp [Value.oneCell']) ?_
          have HBY := Lib.hid (hB16.set ([.bool rd.neg, .slice X' rd.int.length cx', .bool rd.sep, .slice Y' rd.frac.length cy'] : List Value).toArray)
          have HDY : Hid (DrR ((w14).setRow ((w10).heap.size) ([.bool rd.neg, .slice X' rd.int.length cx', .bool rd.sep, .slice Y' rd.frac.length cy'] : List Value).toArray) X' Y' rd) := Lib.hid ⟨ints_setRow hB16 hD16.int (by simp [isInt]) _, ints_setRow hB16 hD16.frac (by simp [isInt]) _⟩
          have hx16 : Ext w10 ((w14).setRow ((w10).heap.size) ([.bool rd.neg, .slice X' rd.int.length cx', .bool rd.sep, .slice Y' rd.frac.length cy'] : List Value).toArray) := Ext.setRow hS16 HLE15.out _
          clear hB16 hD16 hS16
          refine hK1.out _ _ (⟨hx16, Ext.range_ hx16 HRL.out, Ext.cell_ hx16 HC.out⟩) (fun hHeld => ?_)
          clear hK1
          try simp only [Act.put, List.setIfInBounds_toArray, List.set_cons_zero, List.set_cons_succ]
          refine take_ 11 (v := ?_) rfl (by kernel_rfl) (by kernel_rfl) (by kernel_rfl) (fun _ _ _ h => h) hHeld (by rfl) ?_ ?_
          rotate_left 1
          · (intro w hSw; (try dsimp only at hSw); go_simp; all_goals with_reducible rfl)
          try simp only [Act.put, List.setIfInBounds_toArray, List.set_cons_zero, List.set_cons_succ]
          refine wpAnyH_done (by kernel_rfl) ?_ _
          refine NoPanic.normal ?_
          have hRY : ((((w14).setRow ((w10).heap.size) ([.bool rd.neg, .slice X' rd.int.length cx', .bool rd.sep, .slice Y' rd.frac.length cy'] : List Value).toArray))).rangeAt ((w10).heap.size) 0 [.bool rd.neg, .slice X' rd.int.length cx', .bool rd.sep, .slice Y' rd.frac.length cy'] := HBY.out.range
          have hDX : DrR (((w14).setRow ((w10).heap.size) ([.bool rd.neg, .slice X' rd.int.length cx', .bool rd.sep, .slice Y' rd.frac.length cy'] : List Value).toArray)) X Y rd := HD10.out.ext hx16
          have hDY : DrR (((w14).setRow ((w10).heap.size) ([.bool rd.neg, .slice X' rd.int.length cx', .bool rd.sep, .slice Y' rd.frac.length cy'] : List Value).toArray)) X' Y' rd := HDY.out
          have hRX : ((((w14).setRow ((w10).heap.size) ([.bool rd.neg, .slice X' rd.int.length cx', .bool rd.sep, .slice Y' rd.frac.length cy'] : List Value).toArray))).rangeAt xb 0 [.bool rd.neg, .slice X rd.int.length cx, .bool rd.sep, .slice Y rd.frac.length cy] := Ext.range_ hx16 HR10.out
          have hCZ : ((((w14).setRow ((w10).heap.size) ([.bool rd.neg, .slice X' rd.int.length cx', .bool rd.sep, .slice Y' rd.frac.length cy'] : List Value).toArray))).cell? ⟨sb9, m, none⟩ = some (.string ⟨sm.toArray⟩) := Ext.cell_ hx16 HC.out
          have HX16 := Lib.hid (HX10.out.trans hx16)
          have HDX := Lib.hid hDX
          have HDYY := Lib.hid hDY
          have HRX := Lib.hid hRX
          have HRY := Lib.hid hRY
          have HCZ := Lib.hid hCZ
          clear hHeld hx16 HBY HDY hRY hDX hDY hRX hCZ hdr oX oY
          go_wp2_with (first | (refine wpList_load_mid_g (by rfl) 58 (.tmp 20) rfl xb 0 rfl [.bool rd.neg, .slice X rd.int.length cx, .bool rd.sep, .slice Y rd.frac.length cy] _ HRX.out Tryz.underlying58 rfl infoD ?_) | (refine wpList_load_mid_g (by rfl) 43 (.tmp 22) rfl ((w10).heap.size) 0 rfl [.bool rd.neg, .slice X' rd.int.length cx', .bool rd.sep, .slice Y' rd.frac.length cy'] _ HRY.out Tryz.underlying43 rfl infoD14 ?_) | (go_at_call 29; with_reducible refine (HSM.out _ X Y cx cy X' Y' cx' cy' HDX.out HDYY.out).mono ?_; rintro e w17 ⟨rfl, hx17⟩; have HX17 := Lib.hid (HX16.out.trans hx17); have hc17 := Ext.cell_ hx17 HCZ.out; clear hx17) | (go_at_call 30; with_reducible refine (HIS.out _ HX17.out).mono ?_; rintro e w18 ⟨rfl, hx18⟩))
          have HXE := Lib.hid (HX17.out.trans hx18)
          exact ⟨⟨m + 1, by omega, by go_num, HXE.out⟩, by simp [intOf]; omega⟩
      · have e : m = 5 := by omega
        subst e
        have HXL := Lib.hid (HX8.out.trans hx)
        clear hx
        go_wp2_with (go_at_call 31; with_reducible refine (HLV.out _ HXL.out).mono ?_; rintro e w16 ⟨rfl, hx16⟩)
        go_ret
        exact ⟨rfl, HXL.out.trans hx16⟩
  · have i1 : ¬ ((kk : Int) < (tb.size : Int)) := by omega
    have HAL := HAL4
    have HW8 := HW7
    have HX8 := HX7
    clear HAL4 HW7 HX7 HAC HW6 HX6 hT1 hs1 hs3 hs4 hs5 hs6 hfs
    generalize w7 = w8 at *
    go_wp2
    go_loopw [19] (fun i wr => ∃ m : Nat, m ≤ 4 ∧ i = .int .i64 m ∧ Ext w8 wr) (fun i _ => 4 - (intOf i).toNat)
    case atStart => exact ⟨0, Nat.zero_le _, rfl, Ext.refl _⟩
    case round =>
      obtain ⟨m, hm, rfl, hx⟩ := hrel
      by_cases hlm : m < 4
      · have k1 : (m : Int) < 4 := by omega
        have k2 : (0 : Int) ≤ (m : Int) := by omega
        obtain ⟨sm, hc8, hsl⟩ := HAL.out m hlm
        have hc9 := Ext.cell_ hx hc8
        have HCM := Lib.hid hc8
        have HPA : Hid (∀ W, Ext w8 W → Calls Tryz.prog 27 #[.pointer (some ⟨g, 0, none⟩), .string ⟨sm.toArray⟩] W fun e w' => ∃ X Y cx cy, e = .returned (.tuple #[.agg ([.bool (rdD (locOf r p) sm).neg, .slice X (rdD (locOf r p) sm).int.length cx, .bool (rdD (locOf r p) sm).sep, .slice Y (rdD (locOf r p) sm).frac.length cy] : List Value).toArray, .int .i64 (rdE (locOf r p) sm)]) ∧ DrR w' X Y (rdD (locOf r p) sm) ∧ Okc X cx ∧ Okc Y cy ∧ Ext W w') := Lib.hid fun W hW => (HW8.out.ext hW).parse HK.out hsl
        have HPB : Hid (∀ W, Ext w8 W → Calls Tryz.prog 28 #[.agg ([.string ⟨r.name.toArray⟩, .string ⟨r.pattern.toArray⟩, .string ⟨r.system.toArray⟩, .string ⟨r.decimal.toArray⟩, .string ⟨r.group.toArray⟩, .string ⟨r.minus.toArray⟩, .string ⟨r.percent.toArray⟩, .string ⟨r.currency.toArray⟩, .slice A p.pre.length c, .slice B p.suf.length d, .slice C p.npre.length a, .slice D p.nsuf.length b, .int .i64 p.num.prim, .int .i64 p.num.sec, .int .i64 p.num.minInt, .int .i64 p.num.minFrac, .int .i64 p.num.maxFrac] : List Value).toArray, .string ⟨sm.toArray⟩] W fun e w' => ∃ X Y cx cy, e = .returned (.tuple #[.agg ([.bool (rdD (locOf r p) sm).neg, .slice X (rdD (locOf r p) sm).int.length cx, .bool (rdD (locOf r p) sm).sep, .slice Y (rdD (locOf r p) sm).frac.length cy] : List Value).toArray, .int .i64 (rdE (locOf r p) sm)]) ∧ DrR w' X Y (rdD (locOf r p) sm) ∧ Okc X cx ∧ Okc Y cy ∧ Ext W w') := Lib.hid fun W hW => (HW8.out.ext hW).rparse HK.out hsl
        have HIS : Hid (∀ W, Ext w8 W → Calls Tryz.prog 30 #[.pointer (some ⟨g, 0, none⟩), .string ⟨sm.toArray⟩] W fun e w' => e = .returned (.bool (rdE (locOf r p) sm == 0)) ∧ Ext W w') := Lib.hid fun W hW => (HW8.out.ext hW).is HK.out hsl
        have HRS := Lib.hid (rd_small HK.out.both hsl)
        have HSM : Hid (∀ W X Y cx cy X' Y' cx' cy', DrR W X Y (rdD (locOf r p) sm) → DrR W X' Y' (rdD (locOf r p) sm) → Calls Tryz.prog 29 #[.agg ([.bool (rdD (locOf r p) sm).neg, .slice X (rdD (locOf r p) sm).int.length cx, .bool (rdD (locOf r p) sm).sep, .slice Y (rdD (locOf r p) sm).frac.length cy] : List Value).toArray, .agg ([.bool (rdD (locOf r p) sm).neg, .slice X' (rdD (locOf r p) sm).int.length cx', .bool (rdD (locOf r p) sm).sep, .slice Y' (rdD (locOf r p) sm).frac.length cy'] : List Value).toArray] W fun e w' => e = .returned (.bool true) ∧ Ext W w') := Lib.hid fun W X Y cx cy X' Y' cx' cy' h1 h2 => by
          have hh := ref14_same X Y X' Y' cx cy cx' cy' (rdD (locOf r p) sm) (rdD (locOf r p) sm) W h1 h2 (by have := HRS.out; unfold maxLen; omega) (by have := HRS.out; unfold maxLen; omega) (by have := HRS.out; unfold maxLen; omega) (by have := HRS.out; unfold maxLen; omega)
          rwa [decide_eq_true rfl] at hh
        have HXM := Lib.hid hx
        clear hsl hc8 HRS hx
        have hee : (rdE (locOf r p) sm != rdE (locOf r p) sm) = false := by simp
        have hbb : ((rdE (locOf r p) sm == 0) != (rdE (locOf r p) sm == 0)) = false := by simp
        generalize hz : (rdE (locOf r p) sm == 0) = ez at *
        generalize rdE (locOf r p) sm = re at *
        generalize rdD (locOf r p) sm = rd at *
        go_upto_region 14 with (first
          | (go_at_call 27; with_reducible refine (HPA.out _ HXM.out).mono ?_; rintro e w9 ⟨X, Y, cx, cy, rfl, hdr, oX, oY, hx9⟩)
          | (refine wpList_store_fresh rfl 58 (.tmp 20) (.tmp 105) rfl ([.bool rd.neg, .slice X rd.int.length cx, .bool rd.sep, .slice Y rd.frac.length cy] : List Value).toArray 58 _ rfl rfl infoD rfl (by simp [Value.oneCell']) ?_))
        have hb10 := Box.new w9 58 [.bool rd.neg, .slice X rd.int.length cx, .bool rd.sep, .slice Y rd.frac.length cy]
        have hx10 : Ext w9 (w9.alloc (.cells ([.bool rd.neg, .slice X rd.int.length cx, .bool rd.sep, .slice Y rd.frac.length cy] : List Value).toArray 58)) := Ext.alloc_ (Ext.refl _) _
        have HX10 := Lib.hid (HXM.out.trans (hx9.trans hx10))
        have HD10 := Lib.hid (hdr.ext hx10)
        have HR10 := Lib.hid hb10.range
        clear hdr oX oY hx9 hx10 hb10 HPA HXM hc9
        generalize w9.alloc (.cells ([.bool rd.neg, .slice X rd.int.length cx, .bool rd.sep, .slice Y rd.frac.length cy] : List Value).toArray 58) = w10 at *
        generalize w9.heap.size = xb at *
        have HRL := Lib.hid (Ext.range_ HX10.out HW8.out.range)
        have HC := Lib.hid (Ext.cell_ HX10.out HCM.out)
        refine wp_region_noPanic ?_
        refine wp_region_held_drew (S := fun W => Ext w10 W ∧ W.rangeAt lb 0 [.string ⟨r.name.toArray⟩, .string ⟨r.pattern.toArray⟩, .string ⟨r.system.toArray⟩, .string ⟨r.decimal.toArray⟩, .string ⟨r.group.toArray⟩, .string ⟨r.minus.toArray⟩, .string ⟨r.percent.toArray⟩, .string ⟨r.currency.toArray⟩, .slice A p.pre.length c, .slice B p.suf.length d, .slice C p.npre.length a, .slice D p.nsuf.length b, .int .i64 p.num.prim, .int .i64 p.num.sec, .int .i64 p.num.minInt, .int .i64 p.num.minFrac, .int .i64 p.num.maxFrac] ∧ W.cell? ⟨sb, m, none⟩ = some (.string ⟨sm.toArray⟩)) (by kernel_rfl) ?_ (fun hHeld => ?_)
        · exact ⟨Ext.drew_ (Ext.refl _), HRL.out, HC.out⟩
        refine takeRow_ (cs := [.string ⟨r.name.toArray⟩, .string ⟨r.pattern.toArray⟩, .string ⟨r.system.toArray⟩, .string ⟨r.decimal.toArray⟩, .string ⟨r.group.toArray⟩, .string ⟨r.minus.toArray⟩, .string ⟨r.percent.toArray⟩, .string ⟨r.currency.toArray⟩, .slice A p.pre.length c, .slice B p.suf.length d, .slice C p.npre.length a, .slice D p.nsuf.length b, .int .i64 p.num.prim, .int .i64 p.num.sec, .int .i64 p.num.minInt, .int .i64 p.num.minFrac, .int .i64 p.num.maxFrac]) 0 rfl (by kernel_rfl) (by kernel_rfl) (by kernel_rfl) (fun _ _ _ h => h) hHeld (by rfl) 31 ((.tmp 14)) rfl lb (0) rfl _ (fun _ h => h.2.1) Tryz.underlying31 rfl infoRL ?_
        try simp only [Act.put, List.setIfInBounds_toArray, List.set_cons_zero, List.set_cons_succ]
        refine take_ 1 (v := ?_) rfl (by kernel_rfl) (by kernel_rfl) (by kernel_rfl) (fun _ _ _ h => h) hHeld (by rfl) ?_ ?_
        rotate_left 1
        · (intro w hSw; (try dsimp only at hSw); go_simp; all_goals with_reducible rfl)
        try simp only [Act.put, List.setIfInBounds_toArray, List.set_cons_zero, List.set_cons_succ]
        refine take_ 2 (v := ?_) rfl (by kernel_rfl) (by kernel_rfl) (by kernel_rfl) (fun _ _ _ h => h) hHeld (by rfl) ?_ ?_
        rotate_left 1
        · (intro w hSw; (try dsimp only at hSw); go_simp; all_goals with_reducible rfl)
        try simp only [Act.put, List.setIfInBounds_toArray, List.set_cons_zero, List.set_cons_succ]
        refine take_ 3 (v := ?_) rfl (by kernel_rfl) (by kernel_rfl) (by kernel_rfl) (fun _ _ _ h => h) hHeld (by rfl) ?_ ?_
        rotate_left 1
        · (intro w hSw; (try dsimp only at hSw); go_simp; all_goals with_reducible rfl)
        try simp only [Act.put, List.setIfInBounds_toArray, List.set_cons_zero, List.set_cons_succ]
        refine take_ 4 (v := ?_) rfl (by kernel_rfl) (by kernel_rfl) (by kernel_rfl) (fun _ _ _ h => h) hHeld (by rfl) ?_ ?_
        rotate_left 1
        · (intro w hSw; (try dsimp only at hSw); go_simp; all_goals with_reducible rfl)
        try simp only [Act.put, List.setIfInBounds_toArray, List.set_cons_zero, List.set_cons_succ]
        refine wpAnyH_ready (rs := [5, 9]) (by kernel_rfl) (by simp) (AllReadyH.cons rfl ?_ (AllReadyH.cons rfl ?_ AllReadyH.nil))
        · intro K1 hK1
          go_simp
          go_at_call 28
          refine (HPB.out _ (HX10.out.trans hHeld.1)).mono ?_
          rintro e w14 ⟨X', Y', cx', cy', rfl, hdr, oX, oY, hx14⟩
          refine hK1.out _ _ (⟨hHeld.1.trans hx14, Ext.range_ hx14 hHeld.2.1, Ext.cell_ hx14 hHeld.2.2⟩) (fun hHeld => ?_)
          clear hK1
          try simp only [Act.put, List.setIfInBounds_toArray, List.set_cons_zero, List.set_cons_succ]
          refine take_ 6 (v := ?_) rfl (by kernel_rfl) (by kernel_rfl) (by kernel_rfl) (fun _ _ _ h => h) hHeld (by rfl) ?_ ?_
          rotate_left 1
          · (intro w hSw; (try dsimp only at hSw); go_simp; all_goals with_reducible rfl)
          try simp only [Act.put, List.setIfInBounds_toArray, List.set_cons_zero, List.set_cons_succ]
          refine take_ 7 (v := ?_) rfl (by kernel_rfl) (by kernel_rfl) (by kernel_rfl) (fun _ _ _ h => h) hHeld (by rfl) ?_ ?_
          rotate_left 1
          · (intro w hSw; (try dsimp only at hSw); go_simp; all_goals with_reducible rfl)
          try simp only [Act.put, List.setIfInBounds_toArray, List.set_cons_zero, List.set_cons_succ]
          refine take_ 8 (v := ?_) rfl (by kernel_rfl) (by kernel_rfl) (by kernel_rfl) (fun _ _ _ h => h) hHeld (by rfl) ?_ ?_
          rotate_left 1
          · (intro w hSw; (try dsimp only at hSw); go_simp; all_goals with_reducible rfl)
          try simp only [Act.put, List.setIfInBounds_toArray, List.set_cons_zero, List.set_cons_succ]
          refine only_ 9 rfl (by kernel_rfl) (fun K1 hK1 => ?_)
          go_simp
          obtain ⟨hb15, hx15, hle15⟩ := box_of' hHeld.1 43 [.bool false, .slice none 0 0, .bool false, .slice none 0 0]
          have HB15 := Lib.hid hb15
          have HLE15 := Lib.hid hle15
          clear hb15 hle15
          refine hK1.out _ _ (⟨hHeld.1.trans hx15, Ext.range_ hx15 hHeld.2.1, Ext.cell_ hx15 hHeld.2.2⟩) (fun hHeld => ?_)
          clear hK1
          try simp only [Act.put, List.setIfInBounds_toArray, List.set_cons_zero, List.set_cons_succ]
          refine only_ 10 rfl (by kernel_rfl) (fun K1 hK1 => ?_)
          have hB16 : Box (((w14).alloc (.cells ([.bool false, .slice none 0 0, .bool false, .slice none 0 0] : List Value).toArray 43))) ((w14).heap.size) 43 [.bool false, .slice none 0 0, .bool false, .slice none 0 0] := (by first | exact HB15.out | exact HB15.out.ext hx14)
          have hD16 : DrR (((w14).alloc (.cells ([.bool false, .slice none 0 0, .bool false, .slice none 0 0] : List Value).toArray 43))) X' Y' rd := (by first | exact hdr | exact hdr.ext hx15)
          have hS16 : Ext w10 (((w14).alloc (.cells ([.bool false, .slice none 0 0, .bool false, .slice none 0 0] : List Value).toArray 43))) := hHeld.1
          refine step_row rfl 43 (.tmp 22) (.tmp 114) rfl ((w14).heap.size) ([.bool rd.neg, .slice X' rd.int.length cx', .bool rd.sep, .slice Y' rd.frac.length cy'] : List Value).toArray (by rfl) (by rfl) _ _ hB16 infoD14 rfl (by simp [Value.oneCell']) ?_
          have HBY := Lib.hid (hB16.set ([.bool rd.neg, .slice X' rd.int.length cx', .bool rd.sep, .slice Y' rd.frac.length cy'] : List Value).toArray)
          have HDY : Hid (DrR ((((w14).alloc (.cells ([.bool false, .slice none 0 0, .bool false, .slice none 0 0] : List Value).toArray 43))).setRow ((w14).heap.size) ([.bool rd.neg, .slice X' rd.int.length cx', .bool rd.sep, .slice Y' rd.frac.length cy'] : List Value).toArray) X' Y' rd) := Lib.hid ⟨ints_setRow hB16 hD16.int (by simp [isInt]) _, ints_setRow hB16 hD16.frac (by simp [isInt]) _⟩
          have hx16 : Ext w10 ((((w14).alloc (.cells ([.bool false, .slice none 0 0, .bool false, .slice none 0 0] : List Value).toArray 43))).setRow ((w14).heap.size) ([.bool rd.neg, .slice X' rd.int.length cx', .bool rd.sep, .slice Y' rd.frac.length cy'] : List Value).toArray) := Ext.setRow hS16 HLE15.out _
          clear hB16 hD16 hS16
          refine hK1.out _ _ (⟨hx16, Ext.range_ hx16 HRL.out, Ext.cell_ hx16 HC.out⟩) (fun hHeld => ?_)
          clear hK1
          try simp only [Act.put, List.setIfInBounds_toArray, List.set_cons_zero, List.set_cons_succ]
          refine take_ 11 (v := ?_) rfl (by kernel_rfl) (by kernel_rfl) (by kernel_rfl) (fun _ _ _ h => h) hHeld (by rfl) ?_ ?_
          rotate_left 1
          · (intro w hSw; (try dsimp only at hSw); go_simp; all_goals with_reducible rfl)
          try simp only [Act.put, List.setIfInBounds_toArray, List.set_cons_zero, List.set_cons_succ]
          refine wpAnyH_done (by kernel_rfl) ?_ _
          refine NoPanic.normal ?_
          have hRY : ((((((w14).alloc (.cells ([.bool false, .slice none 0 0, .bool false, .slice none 0 0] : List Value).toArray 43))).setRow ((w14).heap.size) ([.bool rd.neg, .slice X' rd.int.length cx', .bool rd.sep, .slice Y' rd.frac.length cy'] : List Value).toArray))).rangeAt ((w14).heap.size) 0 [.bool rd.neg, .slice X' rd.int.length cx', .bool rd.sep, .slice Y' rd.frac.length cy'] := HBY.out.range
          have hDX : DrR (((((w14).alloc (.cells ([.bool false, .slice none 0 0, .bool false, .slice none 0 0] : List Value).toArray 43))).setRow ((w14).heap.size) ([.bool rd.neg, .slice X' rd.int.length cx', .bool rd.sep, .slice Y' rd.frac.length cy'] : List Value).toArray)) X Y rd := HD10.out.ext hx16
          have hDY : DrR (((((w14).alloc (.cells ([.bool false, .slice none 0 0, .bool false, .slice none 0 0] : List Value).toArray 43))).setRow ((w14).heap.size) ([.bool rd.neg, .slice X' rd.int.length cx', .bool rd.sep, .slice Y' rd.frac.length cy'] : List Value).toArray)) X' Y' rd := HDY.out
          have hRX : ((((((w14).alloc (.cells ([.bool false, .slice none 0 0, .bool false, .slice none 0 0] : List Value).toArray 43))).setRow ((w14).heap.size) ([.bool rd.neg, .slice X' rd.int.length cx', .bool rd.sep, .slice Y' rd.frac.length cy'] : List Value).toArray))).rangeAt xb 0 [.bool rd.neg, .slice X rd.int.length cx, .bool rd.sep, .slice Y rd.frac.length cy] := Ext.range_ hx16 HR10.out
          have hCZ : ((((((w14).alloc (.cells ([.bool false, .slice none 0 0, .bool false, .slice none 0 0] : List Value).toArray 43))).setRow ((w14).heap.size) ([.bool rd.neg, .slice X' rd.int.length cx', .bool rd.sep, .slice Y' rd.frac.length cy'] : List Value).toArray))).cell? ⟨sb, m, none⟩ = some (.string ⟨sm.toArray⟩) := Ext.cell_ hx16 HC.out
          have HX16 := Lib.hid (HX10.out.trans hx16)
          have HDX := Lib.hid hDX
          have HDYY := Lib.hid hDY
          have HRX := Lib.hid hRX
          have HRY := Lib.hid hRY
          have HCZ := Lib.hid hCZ
          clear hHeld hx16 HBY HDY hRY hDX hDY hRX hCZ hdr oX oY
          go_wp2_with (first | (refine wpList_load_mid_g (by rfl) 58 (.tmp 20) rfl xb 0 rfl [.bool rd.neg, .slice X rd.int.length cx, .bool rd.sep, .slice Y rd.frac.length cy] _ HRX.out Tryz.underlying58 rfl infoD ?_) | (refine wpList_load_mid_g (by rfl) 43 (.tmp 22) rfl ((w14).heap.size) 0 rfl [.bool rd.neg, .slice X' rd.int.length cx', .bool rd.sep, .slice Y' rd.frac.length cy'] _ HRY.out Tryz.underlying43 rfl infoD14 ?_) | (go_at_call 29; with_reducible refine (HSM.out _ X Y cx cy X' Y' cx' cy' HDX.out HDYY.out).mono ?_; rintro e w17 ⟨rfl, hx17⟩; have HX17 := Lib.hid (HX16.out.trans hx17); have hc17 := Ext.cell_ hx17 HCZ.out; clear hx17) | (go_at_call 30; with_reducible refine (HIS.out _ HX17.out).mono ?_; rintro e w18 ⟨rfl, hx18⟩))
          have HXE := Lib.hid (HX17.out.trans hx18)
          exact ⟨⟨m + 1, by omega, by go_num, HXE.out⟩, by simp [intOf]; omega⟩
        · intro K1 hK1
          go_simp
          obtain ⟨hb15, hx15, hle15⟩ := box_of' hHeld.1 43 [.bool false, .slice none 0 0, .bool false, .slice none 0 0]
          have HB15 := Lib.hid hb15
          have HLE15 := Lib.hid hle15
          clear hb15 hle15
          refine hK1.out _ _ (⟨hHeld.1.trans hx15, Ext.range_ hx15 hHeld.2.1, Ext.cell_ hx15 hHeld.2.2⟩) (fun hHeld => ?_)
          clear hK1
          try simp only [Act.put, List.setIfInBounds_toArray, List.set_cons_zero, List.set_cons_succ]
          refine only_ 5 rfl (by kernel_rfl) (fun K1 hK1 => ?_)
          go_simp
          go_at_call 28
          refine (HPB.out _ (HX10.out.trans hHeld.1)).mono ?_
          rintro e w14 ⟨X', Y', cx', cy', rfl, hdr, oX, oY, hx14⟩
          refine hK1.out _ _ (⟨hHeld.1.trans hx14, Ext.range_ hx14 hHeld.2.1, Ext.cell_ hx14 hHeld.2.2⟩) (fun hHeld => ?_)
          clear hK1
          try simp only [Act.put, List.setIfInBounds_toArray, List.set_cons_zero, List.set_cons_succ]
          refine take_ 6 (v := ?_) rfl (by kernel_rfl) (by kernel_rfl) (by kernel_rfl) (fun _ _ _ h => h) hHeld (by rfl) ?_ ?_
          rotate_left 1
          · (intro w hSw; (try dsimp only at hSw); go_simp; all_goals with_reducible rfl)
          try simp only [Act.put, List.setIfInBounds_toArray, List.set_cons_zero, List.set_cons_succ]
          refine take_ 7 (v := ?_) rfl (by kernel_rfl) (by kernel_rfl) (by kernel_rfl) (fun _ _ _ h => h) hHeld (by rfl) ?_ ?_
          rotate_left 1
          · (intro w hSw; (try dsimp only at hSw); go_simp; all_goals with_reducible rfl)
          try simp only [Act.put, List.setIfInBounds_toArray, List.set_cons_zero, List.set_cons_succ]
          refine take_ 8 (v := ?_) rfl (by kernel_rfl) (by kernel_rfl) (by kernel_rfl) (fun _ _ _ h => h) hHeld (by rfl) ?_ ?_
          rotate_left 1
          · (intro w hSw; (try dsimp only at hSw); go_simp; all_goals with_reducible rfl)
          try simp only [Act.put, List.setIfInBounds_toArray, List.set_cons_zero, List.set_cons_succ]
          refine only_ 10 rfl (by kernel_rfl) (fun K1 hK1 => ?_)
          have hB16 : Box (w14) ((w10).heap.size) 43 [.bool false, .slice none 0 0, .bool false, .slice none 0 0] := (by first | exact HB15.out | exact HB15.out.ext hx14)
          have hD16 : DrR (w14) X' Y' rd := (by first | exact hdr | exact hdr.ext hx15)
          have hS16 : Ext w10 (w14) := hHeld.1
          refine step_row rfl 43 (.tmp 22) (.tmp 114) rfl ((w10).heap.size) ([.bool rd.neg, .slice X' rd.int.length cx', .bool rd.sep, .slice Y' rd.frac.length cy'] : List Value).toArray (by rfl) (by rfl) _ _ hB16 infoD14 rfl (by simp [Value.oneCell']) ?_
          have HBY := Lib.hid (hB16.set ([.bool rd.neg, .slice X' rd.int.length cx', .bool rd.sep, .slice Y' rd.frac.length cy'] : List Value).toArray)
          have HDY : Hid (DrR ((w14).setRow ((w10).heap.size) ([.bool rd.neg, .slice X' rd.int.length cx', .bool rd.sep, .slice Y' rd.frac.length cy'] : List Value).toArray) X' Y' rd) := Lib.hid ⟨ints_setRow hB16 hD16.int (by simp [isInt]) _, ints_setRow hB16 hD16.frac (by simp [isInt]) _⟩
          have hx16 : Ext w10 ((w14).setRow ((w10).heap.size) ([.bool rd.neg, .slice X' rd.int.length cx', .bool rd.sep, .slice Y' rd.frac.length cy'] : List Value).toArray) := Ext.setRow hS16 HLE15.out _
          clear hB16 hD16 hS16
          refine hK1.out _ _ (⟨hx16, Ext.range_ hx16 HRL.out, Ext.cell_ hx16 HC.out⟩) (fun hHeld => ?_)
          clear hK1
          try simp only [Act.put, List.setIfInBounds_toArray, List.set_cons_zero, List.set_cons_succ]
          refine take_ 11 (v := ?_) rfl (by kernel_rfl) (by kernel_rfl) (by kernel_rfl) (fun _ _ _ h => h) hHeld (by rfl) ?_ ?_
          rotate_left 1
          · (intro w hSw; (try dsimp only at hSw); go_simp; all_goals with_reducible rfl)
          try simp only [Act.put, List.setIfInBounds_toArray, List.set_cons_zero, List.set_cons_succ]
          refine wpAnyH_done (by kernel_rfl) ?_ _
          refine NoPanic.normal ?_
          have hRY : ((((w14).setRow ((w10).heap.size) ([.bool rd.neg, .slice X' rd.int.length cx', .bool rd.sep, .slice Y' rd.frac.length cy'] : List Value).toArray))).rangeAt ((w10).heap.size) 0 [.bool rd.neg, .slice X' rd.int.length cx', .bool rd.sep, .slice Y' rd.frac.length cy'] := HBY.out.range
          have hDX : DrR (((w14).setRow ((w10).heap.size) ([.bool rd.neg, .slice X' rd.int.length cx', .bool rd.sep, .slice Y' rd.frac.length cy'] : List Value).toArray)) X Y rd := HD10.out.ext hx16
          have hDY : DrR (((w14).setRow ((w10).heap.size) ([.bool rd.neg, .slice X' rd.int.length cx', .bool rd.sep, .slice Y' rd.frac.length cy'] : List Value).toArray)) X' Y' rd := HDY.out
          have hRX : ((((w14).setRow ((w10).heap.size) ([.bool rd.neg, .slice X' rd.int.length cx', .bool rd.sep, .slice Y' rd.frac.length cy'] : List Value).toArray))).rangeAt xb 0 [.bool rd.neg, .slice X rd.int.length cx, .bool rd.sep, .slice Y rd.frac.length cy] := Ext.range_ hx16 HR10.out
          have hCZ : ((((w14).setRow ((w10).heap.size) ([.bool rd.neg, .slice X' rd.int.length cx', .bool rd.sep, .slice Y' rd.frac.length cy'] : List Value).toArray))).cell? ⟨sb, m, none⟩ = some (.string ⟨sm.toArray⟩) := Ext.cell_ hx16 HC.out
          have HX16 := Lib.hid (HX10.out.trans hx16)
          have HDX := Lib.hid hDX
          have HDYY := Lib.hid hDY
          have HRX := Lib.hid hRX
          have HRY := Lib.hid hRY
          have HCZ := Lib.hid hCZ
          clear hHeld hx16 HBY HDY hRY hDX hDY hRX hCZ hdr oX oY
          go_wp2_with (first | (refine wpList_load_mid_g (by rfl) 58 (.tmp 20) rfl xb 0 rfl [.bool rd.neg, .slice X rd.int.length cx, .bool rd.sep, .slice Y rd.frac.length cy] _ HRX.out Tryz.underlying58 rfl infoD ?_) | (refine wpList_load_mid_g (by rfl) 43 (.tmp 22) rfl ((w10).heap.size) 0 rfl [.bool rd.neg, .slice X' rd.int.length cx', .bool rd.sep, .slice Y' rd.frac.length cy'] _ HRY.out Tryz.underlying43 rfl infoD14 ?_) | (go_at_call 29; with_reducible refine (HSM.out _ X Y cx cy X' Y' cx' cy' HDX.out HDYY.out).mono ?_; rintro e w17 ⟨rfl, hx17⟩; have HX17 := Lib.hid (HX16.out.trans hx17); have hc17 := Ext.cell_ hx17 HCZ.out; clear hx17) | (go_at_call 30; with_reducible refine (HIS.out _ HX17.out).mono ?_; rintro e w18 ⟨rfl, hx18⟩))
          have HXE := Lib.hid (HX17.out.trans hx18)
          exact ⟨⟨m + 1, by omega, by go_num, HXE.out⟩, by simp [intOf]; omega⟩
      · have e : m = 4 := by omega
        subst e
        have HXL := Lib.hid (HX8.out.trans hx)
        clear hx
        go_wp2_with (go_at_call 31; with_reducible refine (HLV.out _ HXL.out).mono ?_; rintro e w16 ⟨rfl, hx16⟩)
        go_ret
        exact ⟨rfl, HXL.out.trans hx16⟩
end Go.Proofs.YtaobgbhgckndkaaGreatDoor.Loc
