/- The law LocaleSigns: what a cluster is, and whether an affix has it, is the document's, and never both. (Printed by wip/gen/law11.py.) -/
import Derived.Test.YtdkjkbbibdppoaaGreatDoorLTell
import Derived.Test.YtdkjkbbibdppoaaGreatDoorLGoodW
import Derived.Test.YtdkjkbbibdppoaaGreatDoorJLocC
import Derived.Test.YtdkjkbbibdppoaaGreatDoorLRef5
import Derived.Deep.RegionHeld3
namespace Go.Proofs.YtdkjkbbibdppoaaGreatDoor.Loc
open Go.RowKit Utf All Small Strs Build EncC Pat Cls Dec Go.Proofs.YtdkjkbbibdppoaaGreatDoor.Sys
set_option linter.unusedVariables false
set_option linter.unusedSimpArgs false

theorem aff_no {r : Rec} {p : Pt} (h : Both r p) {s : ByteArray} (ha : affB (locOf r p) s = true) : signZ (locOf r p) s = -1 := by
  unfold affB at ha
  obtain ⟨q, hq, hs⟩ := List.any_eq_true.1 ha
  unfold affQ at hs
  obtain ⟨t, ht, he⟩ := List.any_eq_true.1 hs
  have he' := of_decide_eq_true he
  rw [← he']
  exact h.may.affT q hq t ht
set_option maxHeartbeats 16000000 in
set_option maxRecDepth 1000000 in
theorem law_LocaleSigns (v0 v1 v2 v3 v4 v5 : Int) (s : List UInt8) (d0 : Int) (hs : s.length ≤ maxLen) (hd : i64 d0) (w : World) (h0 : i64 v0) (h1 : i64 v1) (h2 : i64 v2) (h3 : i64 v3) (h4 : i64 v4) (h5 : i64 v5) (hT : Tabs w) :
    Calls Tryz.prog 6 #[.agg #[.int .i64 v0, .int .i64 v1, .int .i64 v2, .int .i64 v3, .int .i64 v4, .int .i64 v5], .string ⟨s.toArray⟩, .int .i64 d0] w fun e w' => e = .returned (.bool true) ∧ Below w.heap.size w w' := by
  obtain ⟨r, p, hB, hG⟩ : ∃ r p, Both r p ∧ ∀ W, Calls Tryz.prog 17 #[.agg #[.int .i64 v0, .int .i64 v1, .int .i64 v2, .int .i64 v3, .int .i64 v4, .int .i64 v5]] W fun e w' => e = .returned (.agg (recV r).toArray) ∧ Ext W w' :=
    ⟨_, _, both_good v0 v1 v2 v3 v4 v5, fun W => good_ v0 v1 v2 v3 v4 v5 W h0 h1 h2 h3 h4 h5⟩
  have HB := Lib.hid hB
  have HGD := Lib.hid hG
  have HTW := Lib.hid hT
  have hb1 := Box.new w 43 [.int .i64 v0, .int .i64 v1, .int .i64 v2, .int .i64 v3, .int .i64 v4, .int .i64 v5]
  have hx1 : Ext w (w.alloc (.cells ([.int .i64 v0, .int .i64 v1, .int .i64 v2, .int .i64 v3, .int .i64 v4, .int .i64 v5] : List Value).toArray 43)) := Ext.alloc_ (Ext.refl w) _
  clear hB hG hT h0 h1 h2 h3 h4 h5
  go_enter Tryz.func6, Tryz.ntmps6
  go_upto_region 1 with fail
  change Code.wp _ _ _ _ (w.alloc (.cells ([.int .i64 v0, .int .i64 v1, .int .i64 v2, .int .i64 v3, .int .i64 v4, .int .i64 v5] : List Value).toArray 43))
  generalize w.alloc (.cells ([.int .i64 v0, .int .i64 v1, .int .i64 v2, .int .i64 v3, .int .i64 v4, .int .i64 v5] : List Value).toArray 43) = w1 at *
  have HRG := Lib.hid hb1.range
  go_upto_region 2 with (first
    | (refine wpList_load_mid rfl 43 (.tmp 3) rfl w.heap.size 0 rfl [.int .i64 v0, .int .i64 v1, .int .i64 v2, .int .i64 v3, .int .i64 v4, .int .i64 v5] _ HRG.out Tryz.underlying43 rfl infoG ?_)
    | (go_at_call 17; refine (HGD.out w1).mono ?_; rintro e w2 ⟨rfl, hx2⟩)
    | (refine wpList_store_fresh rfl 45 (.tmp 7) (.tmp 16) rfl (recV r).toArray 45 _ rfl rfl infoR rfl (recs_one r) ?_))
  have hb3 := Box.new w2 45 (recV r)
  have hx3 : Ext w (w2.alloc (.cells (recV r).toArray 45)) := Ext.alloc_ (hx1.trans hx2) _
  generalize w2.alloc (.cells (recV r).toArray 45) = w3 at *
  generalize w2.heap.size = rb at *
  have hr3 : w3.rangeAt rb 0 [.string ⟨r.name.toArray⟩, .string ⟨r.pattern.toArray⟩, .string ⟨r.system.toArray⟩, .string ⟨r.decimal.toArray⟩, .string ⟨r.group.toArray⟩, .string ⟨r.minus.toArray⟩, .string ⟨r.percent.toArray⟩, .string ⟨r.currency.toArray⟩] := hb3.range
  have HR3 := Lib.hid hb3
  have HRR := Lib.hid hr3
  have HX3 := Lib.hid hx3
  have HOF := Lib.hid (of_ r w3)
  have HNW : Hid (∀ W, Ext w3 W → Calls Tryz.prog 18 #[.agg (recV r).toArray] W fun e w' => ∃ g A B C D c d a b, e = .returned (.tuple #[.pointer (some ⟨g, 0, none⟩), .nilIface]) ∧ LocR w' g A B C D c d a b (locOf r p) ∧ Ext W w') := Lib.hid fun W hW =>
    new_ r p W HB.out.pat (by have := HB.out.plen; omega) HB.out.nm HB.out.may (HTW.out.ext (HX3.out.trans hW))
  clear hb1 HRG hx1 hx2 hb3 hx3 hr3 HGD
  go_upto_region 5 with (first
    | (refine wpList_load_mid rfl 45 (.tmp 7) rfl rb 0 rfl _ _ HRR.out Tryz.underlying45 rfl infoR ?_)
    | (go_at_call 19; refine HOF.out.mono ?_; rintro e w4 ⟨rfl, hx4⟩)
    | (go_at_call 18; refine (HNW.out _ hx4).mono ?_; rintro e w5 ⟨g, A, B, C, D, c, d, a, b, rfl, hL, hx5⟩))
  have HL := Lib.hid hL
  have HX5 := Lib.hid (hx4.trans hx5)
  have HLIV : Hid (∀ W, Ext w3 W → Calls Tryz.prog 23 #[] W fun e w' => e = .returned (.bool true) ∧ Ext W w') := Lib.hid fun W hW => lives11 W (HTW.out.ext (HX3.out.trans hW))
  clear hL hx4 hx5 HNW HOF
  have hkb := aroundF_bd d0 10 (by omega)
  have HAK : Hid (∀ W, Calls Tryz.prog 24 #[.int .i64 d0, .int .i64 10] W fun e w' => e = .returned (.int .i64 (aroundF d0 10)) ∧ W = w') := Lib.hid fun W => around d0 10 W hd.1 hd.2 (by omega) (by omega)
  have HFW : Hid (∀ W, Calls Tryz.prog 25 #[.string ⟨s.toArray⟩, .int .i64 8] W fun e w' => e = .returned (.string ⟨(s.take 8).toArray⟩) ∧ W = w') := Lib.hid fun W => few_l s 8 W hs (by decide)
  have HDG : Hid (∀ W, Calls Tryz.prog 32 #[.string ⟨r.system.toArray⟩, .int .i64 (aroundF d0 10)] W fun e w' => e = .returned (.string ⟨(encB (zeroZ ⟨r.system.toArray⟩ + aroundF d0 10)).toArray⟩) ∧ Ext W w') := Lib.hid fun W => ref_digit _ _ W hkb.1 (by omega)
  generalize s.take 8 = s8 at *
  generalize encB (zeroZ ⟨r.system.toArray⟩ + aroundF d0 10) = dg at *
  generalize aroundF d0 10 = kd at *
  have HRN := Lib.hid (fun W => ref_new r p W HB.out)
  have HRR5 := Lib.hid (Ext.range_ HX5.out HRR.out)
  have HR5 := Lib.hid (HR3.out.ext HX5.out)
  clear hkb
  go_upto_region 6 with (first
    | (refine wpList_load_mid rfl 45 (.tmp 7) rfl rb 0 rfl _ _ HRR5.out Tryz.underlying45 rfl infoR ?_)
    | (go_at_call 22; refine (HRN.out _).mono ?_; rintro e w7 ⟨A', B', C', D', c', d', a', b', rfl, hpt7, hcap7, hx7⟩)
    | (refine wpList_store_fresh rfl 61 (.tmp 10) (.tmp 30) rfl (refLV A' B' C' D' c' d' a' b' r p).toArray 61 _ rfl rfl infoRL rfl (refL_one A' B' C' D' c' d' a' b' r p) ?_))
  have hb8 := Box.new w7 61 (refLV A' B' C' D' c' d' a' b' r p)
  have hx78 : Ext w7 (w7.alloc (.cells (refLV A' B' C' D' c' d' a' b' r p).toArray 61)) := Ext.alloc_ (Ext.refl _) _
  generalize w7.alloc (.cells (refLV A' B' C' D' c' d' a' b' r p).toArray 61) = w8 at *
  generalize w7.heap.size = lb at *
  have hx8 := hx7.trans hx78
  have hr8 : w8.rangeAt lb 0 [.string ⟨r.name.toArray⟩, .string ⟨r.pattern.toArray⟩, .string ⟨r.system.toArray⟩, .string ⟨r.decimal.toArray⟩, .string ⟨r.group.toArray⟩, .string ⟨r.minus.toArray⟩, .string ⟨r.percent.toArray⟩, .string ⟨r.currency.toArray⟩, .slice A' p.pre.length c', .slice B' p.suf.length d', .slice C' p.npre.length a', .slice D' p.nsuf.length b', .int .i64 p.num.prim, .int .i64 p.num.sec, .int .i64 p.num.minInt, .int .i64 p.num.minFrac, .int .i64 p.num.maxFrac] := hb8.range
  have HPT8 := Lib.hid (hpt7.ext hx78)
  have q2 := (HR5.out.ext hx8).cell (j := 2) (v := .string ⟨r.system.toArray⟩) rfl
  have q3 := (HR5.out.ext hx8).cell (j := 3) (v := .string ⟨r.decimal.toArray⟩) rfl
  have q4 := (HR5.out.ext hx8).cell (j := 4) (v := .string ⟨r.group.toArray⟩) rfl
  have q5 := (HR5.out.ext hx8).cell (j := 5) (v := .string ⟨r.minus.toArray⟩) rfl
  have HX8 := Lib.hid (HX5.out.trans hx8)
  have HL8 := Lib.hid (HL.out.ext hx8)
  clear hb8 hx78 hx7 hpt7 hcap7 hx8 HRN HRR5 HR5
  refine wp_region_noPanic ?_
  refine wp_region_held_drew (S := fun W => Ext w8 W ∧ W.cell? ⟨rb, 2, none⟩ = some (.string ⟨r.system.toArray⟩) ∧ W.cell? ⟨rb, 3, none⟩ = some (.string ⟨r.decimal.toArray⟩) ∧ W.cell? ⟨rb, 4, none⟩ = some (.string ⟨r.group.toArray⟩) ∧ W.cell? ⟨rb, 5, none⟩ = some (.string ⟨r.minus.toArray⟩)) (by kernel_rfl) ?_ (fun hHeld => ?_)
  · exact ⟨Ext.drew_ (Ext.refl _), q2, q3, q4, q5⟩
  refine take_ 0 (v := ?_) rfl (by kernel_rfl) (by kernel_rfl) (by kernel_rfl) (fun _ _ _ h => h) hHeld (by rfl) ?_ ?_
  rotate_left 1
  · (intro w hSw; (try dsimp only at hSw); go_simp; all_goals with_reducible rfl)
  try simp only [Act.put, List.setIfInBounds_toArray, List.set_cons_zero, List.set_cons_succ]
  refine take_ 2 (v := ?_) rfl (by kernel_rfl) (by kernel_rfl) (by kernel_rfl) (fun _ _ _ h => h) hHeld (by rfl) ?_ ?_
  rotate_left 1
  · (intro w hSw; (try dsimp only at hSw); go_simp; all_goals with_reducible rfl)
  try simp only [Act.put, List.setIfInBounds_toArray, List.set_cons_zero, List.set_cons_succ]
  refine take_ 3 (v := ?_) rfl (by kernel_rfl) (by kernel_rfl) (by kernel_rfl) (fun _ _ _ h => h) hHeld (by rfl) ?_ ?_
  rotate_left 1
  · (intro w hSw; (try dsimp only at hSw); go_simp; all_goals with_reducible rfl)
  try simp only [Act.put, List.setIfInBounds_toArray, List.set_cons_zero, List.set_cons_succ]
  refine take_ 4 (v := ?_) rfl (by kernel_rfl) (by kernel_rfl) (by kernel_rfl) (fun _ _ _ h => h) hHeld (by rfl) ?_ ?_
  rotate_left 1
  · (intro w hSw; (try dsimp only at hSw); go_simp; all_goals with_reducible rfl)
  try simp only [Act.put, List.setIfInBounds_toArray, List.set_cons_zero, List.set_cons_succ]
  refine take_ 5 (v := ?_) rfl (by kernel_rfl) (by kernel_rfl) (by kernel_rfl) (fun _ _ _ h => h) hHeld (by rfl) ?_ ?_
  rotate_left 1
  · (intro w hSw; (try dsimp only at hSw); go_simp; all_goals with_reducible rfl)
  try simp only [Act.put, List.setIfInBounds_toArray, List.set_cons_zero, List.set_cons_succ]
  refine take_ 6 (v := ?_) rfl (by kernel_rfl) (by kernel_rfl) (by kernel_rfl) (fun _ _ _ h => h) hHeld (by rfl) ?_ ?_
  rotate_left 1
  · (intro w hSw; (try dsimp only at hSw); go_simp; all_goals with_reducible rfl)
  try simp only [Act.put, List.setIfInBounds_toArray, List.set_cons_zero, List.set_cons_succ]
  refine take_ 7 (v := ?_) rfl (by kernel_rfl) (by kernel_rfl) (by kernel_rfl) (fun _ _ _ h => h) hHeld (by rfl) ?_ ?_
  rotate_left 1
  · (intro w hSw; (try dsimp only at hSw); go_simp; all_goals with_reducible rfl)
  try simp only [Act.put, List.setIfInBounds_toArray, List.set_cons_zero, List.set_cons_succ]
  refine take_ 8 (v := ?_) rfl (by kernel_rfl) (by kernel_rfl) (by kernel_rfl) (fun _ _ _ h => h) hHeld (by rfl) ?_ ?_
  rotate_left 1
  · (intro w hSw; (try dsimp only at hSw); go_simp; all_goals with_reducible rfl)
  try simp only [Act.put, List.setIfInBounds_toArray, List.set_cons_zero, List.set_cons_succ]
  refine take_ 9 (v := ?_) rfl (by kernel_rfl) (by kernel_rfl) (by kernel_rfl) (fun _ _ _ h => h) hHeld (by rfl) ?_ ?_
  rotate_left 1
  · (intro w hSw; (try dsimp only at hSw); go_simp; all_goals with_reducible rfl)
  try simp only [Act.put, List.setIfInBounds_toArray, List.set_cons_zero, List.set_cons_succ]
  refine take_ 10 (v := ?_) rfl (by kernel_rfl) (by kernel_rfl) (by kernel_rfl) (fun _ _ _ h => h) hHeld (by rfl) ?_ ?_
  rotate_left 1
  · (intro w hSw; (try dsimp only at hSw); go_simp; all_goals with_reducible rfl)
  try simp only [Act.put, List.setIfInBounds_toArray, List.set_cons_zero, List.set_cons_succ]
  refine only_ 1 rfl (by kernel_rfl) (fun K1 hK1 => ?_)
  go_simp
  go_at_call 25
  refine (HFW.out _).mono ?_
  rintro e w11 ⟨rfl, rfl⟩
  refine hK1.out _ _ (hHeld) (fun hHeld => ?_)
  clear hK1
  try simp only [Act.put, List.setIfInBounds_toArray, List.set_cons_zero, List.set_cons_succ]
  refine only_ 11 rfl (by kernel_rfl) (fun K1 hK1 => ?_)
  go_simp
  go_at_call 24
  refine (HAK.out _).mono ?_
  rintro e w11 ⟨rfl, rfl⟩
  refine hK1.out _ _ (hHeld) (fun hHeld => ?_)
  clear hK1
  try simp only [Act.put, List.setIfInBounds_toArray, List.set_cons_zero, List.set_cons_succ]
  refine only_ 12 rfl (by kernel_rfl) (fun K1 hK1 => ?_)
  go_simp
  go_at_call 32
  refine (HDG.out _).mono ?_
  rintro e w12 ⟨rfl, hx12⟩
  refine hK1.out _ _ (⟨hHeld.1.trans hx12, Ext.cell_ hx12 hHeld.2.1, Ext.cell_ hx12 hHeld.2.2.1, Ext.cell_ hx12 hHeld.2.2.2.1, Ext.cell_ hx12 hHeld.2.2.2.2⟩) (fun hHeld => ?_)
  clear hK1
  try simp only [Act.put, List.setIfInBounds_toArray, List.set_cons_zero, List.set_cons_succ]
  refine only_ 13 rfl (by kernel_rfl) (fun K1 hK1 => ?_)
  go_simp
  have hbn := Box.new w12 9 [.string ⟨s8.toArray⟩, .string ⟨r.decimal.toArray⟩, .string ⟨r.group.toArray⟩, .string ⟨r.minus.toArray⟩, .string ⟨dg.toArray⟩, .string ⟨#[120]⟩, .string ⟨#[36]⟩, .string ⟨#[40]⟩, .string ⟨#[37]⟩, .string ⟨#[]⟩]
  have hxn : Ext w12 (w12.alloc (.cells ([.string ⟨s8.toArray⟩, .string ⟨r.decimal.toArray⟩, .string ⟨r.group.toArray⟩, .string ⟨r.minus.toArray⟩, .string ⟨dg.toArray⟩, .string ⟨#[120]⟩, .string ⟨#[36]⟩, .string ⟨#[40]⟩, .string ⟨#[37]⟩, .string ⟨#[]⟩] : List Value).toArray 9)) := Ext.alloc_ (Ext.refl _) _
  refine hK1.out _ _ (⟨hHeld.1.trans hxn, Ext.cell_ hxn hHeld.2.1, Ext.cell_ hxn hHeld.2.2.1, Ext.cell_ hxn hHeld.2.2.2.1, Ext.cell_ hxn hHeld.2.2.2.2⟩) (fun hHeld => ?_)
  clear hK1
  try simp only [Act.put, List.setIfInBounds_toArray, List.set_cons_zero, List.set_cons_succ]
  refine take_ 14 (v := ?_) rfl (by kernel_rfl) (by kernel_rfl) (by kernel_rfl) (fun _ _ _ h => h) hHeld (by rfl) ?_ ?_
  rotate_left 1
  · (intro w hSw; (try dsimp only at hSw); go_simp; all_goals with_reducible rfl)
  try simp only [Act.put, List.setIfInBounds_toArray, List.set_cons_zero, List.set_cons_succ]
  refine wpAnyH_done (by kernel_rfl) ?_ _
  refine NoPanic.normal ?_
  change Exit.then _ _ Exit.normal _ (w12.alloc (.cells ([.string ⟨s8.toArray⟩, .string ⟨r.decimal.toArray⟩, .string ⟨r.group.toArray⟩, .string ⟨r.minus.toArray⟩, .string ⟨dg.toArray⟩, .string ⟨#[120]⟩, .string ⟨#[36]⟩, .string ⟨#[40]⟩, .string ⟨#[37]⟩, .string ⟨#[]⟩] : List Value).toArray 9))
  have hro : Row (w12.alloc (.cells ([.string ⟨s8.toArray⟩, .string ⟨r.decimal.toArray⟩, .string ⟨r.group.toArray⟩, .string ⟨r.minus.toArray⟩, .string ⟨dg.toArray⟩, .string ⟨#[120]⟩, .string ⟨#[36]⟩, .string ⟨#[40]⟩, .string ⟨#[37]⟩, .string ⟨#[]⟩] : List Value).toArray 9)) (some ⟨w12.heap.size, 0, none⟩) (strsV [s8, r.decimal, r.group, r.minus, dg, [120], [36], [40], [37], []]) := hbn.row
  have HROW := Lib.hid hro
  have HX13 := Lib.hid hHeld.1
  clear hbn hxn hHeld hro hx12 q2 q3 q4 q5
  generalize w12.alloc (.cells ([.string ⟨s8.toArray⟩, .string ⟨r.decimal.toArray⟩, .string ⟨r.group.toArray⟩, .string ⟨r.minus.toArray⟩, .string ⟨dg.toArray⟩, .string ⟨#[120]⟩, .string ⟨#[36]⟩, .string ⟨#[40]⟩, .string ⟨#[37]⟩, .string ⟨#[]⟩] : List Value).toArray 9) = w13 at *
  generalize w12.heap.size = ab0 at *
  generalize hts : [s8, r.decimal, r.group, r.minus, dg, [120], [36], [40], [37], []] = ts at *
  have hln : ts.length = 10 := by rw [← hts]; rfl
  have HLN := Lib.hid hln
  clear hts hln
  have HSG : Hid (∀ t W, Ext w13 W → Calls Tryz.prog 33 #[.pointer (some ⟨g, 0, none⟩), .string t] W fun e w' => e = .returned (.int .i64 (signZ (locOf r p) t)) ∧ Ext W w') := Lib.hid fun t W hW => sign_l g A B C D c d a b t (locOf r p) W (HL8.out.ext (HX13.out.trans hW)) HB.out.may.b
  have HAF : Hid (∀ t W, Ext w13 W → Calls Tryz.prog 34 #[.pointer (some ⟨g, 0, none⟩), .string t] W fun e w' => e = .returned (.bool (affB (locOf r p) t)) ∧ Ext W w') := Lib.hid fun t W hW => affix_l g A B C D c d a b t (locOf r p) W (HL8.out.ext (HX13.out.trans hW)) HB.out.may
  have HRS : Hid (∀ t W, Calls Tryz.prog 35 #[.agg ([.string ⟨r.name.toArray⟩, .string ⟨r.pattern.toArray⟩, .string ⟨r.system.toArray⟩, .string ⟨r.decimal.toArray⟩, .string ⟨r.group.toArray⟩, .string ⟨r.minus.toArray⟩, .string ⟨r.percent.toArray⟩, .string ⟨r.currency.toArray⟩, .slice A' p.pre.length c', .slice B' p.suf.length d', .slice C' p.npre.length a', .slice D' p.nsuf.length b', .int .i64 p.num.prim, .int .i64 p.num.sec, .int .i64 p.num.minInt, .int .i64 p.num.minFrac, .int .i64 p.num.maxFrac] : List Value).toArray, .string t] W fun e w' => e = .returned (.int .i64 (signZ (locOf r p) t)) ∧ Ext W w') := Lib.hid fun t W => ref_sign A' B' C' D' c' d' a' b' r p t W HB.out
  have HRF : Hid (∀ t W, Ext w13 W → Calls Tryz.prog 36 #[.agg ([.string ⟨r.name.toArray⟩, .string ⟨r.pattern.toArray⟩, .string ⟨r.system.toArray⟩, .string ⟨r.decimal.toArray⟩, .string ⟨r.group.toArray⟩, .string ⟨r.minus.toArray⟩, .string ⟨r.percent.toArray⟩, .string ⟨r.currency.toArray⟩, .slice A' p.pre.length c', .slice B' p.suf.length d', .slice C' p.npre.length a', .slice D' p.nsuf.length b', .int .i64 p.num.prim, .int .i64 p.num.sec, .int .i64 p.num.minInt, .int .i64 p.num.minFrac, .int .i64 p.num.maxFrac] : List Value).toArray, .string t] W fun e w' => e = .returned (.bool (affB (locOf r p) t)) ∧ Ext W w') := Lib.hid fun t W hW => ref_affix A' B' C' D' c' d' a' b' r p t W HB.out (HPT8.out.ext (HX13.out.trans hW))
  have HNO : Hid (∀ t, affB (locOf r p) t = true → signZ (locOf r p) t = -1) := Lib.hid fun t ha => aff_no HB.out ha
  have HR13 := Lib.hid (Ext.range_ HX13.out hr8)
  clear hr8
  go_wp2
  go_loopw [12, 13, 14] (fun i _ _ wr => ∃ m : Nat, m ≤ 10 ∧ i = .int .i64 m ∧ Ext w13 wr) (fun i _ _ _ => 10 - (intOf i).toNat)
  case atStart => exact ⟨0, by omega, rfl, Ext.refl _⟩
  case round =>
    obtain ⟨m, hm, rfl, hx⟩ := hrel
    by_cases hlt : m < 10
    · have hml : m < ts.length := by have := HLN.out; omega
      obtain ⟨b1', o1, he1, hc1⟩ := str_at (HROW.out.below hx (Nat.le_refl _)) hml
      injection he1 with he1; injection he1 with he1 he2
      subst he1; subst he2
      rw [Nat.zero_add] at hc1
      have hsg := HSG.out ⟨(ts[m]).toArray⟩
      have haf := HAF.out ⟨(ts[m]).toArray⟩
      have hrs := HRS.out ⟨(ts[m]).toArray⟩
      have hrf := HRF.out ⟨(ts[m]).toArray⟩
      have hno := HNO.out ⟨(ts[m]).toArray⟩
      generalize (⟨(ts[m]).toArray⟩ : ByteArray) = u at *
      generalize signZ (locOf r p) u = sg at *
      generalize affB (locOf r p) u = ab at *
      have HSGU := Lib.hid hsg
      have HAFU := Lib.hid haf
      have HRSU := Lib.hid hrs
      have HRFU := Lib.hid hrf
      have HNOU := Lib.hid hno
      clear hsg haf hrs hrf hno
      have i1 : (m : Int) < 10 := by omega
      have i2 : (0 : Int) ≤ (m : Int) := by omega
      go_upto_region 12 with (first
        | (go_at_call 33; with_reducible refine (HSGU.out _ hx).mono ?_; rintro e w14 ⟨rfl, hx14⟩; have hc2 := Ext.cell_ hx14 hc1)
        | (go_at_call 34; with_reducible refine (HAFU.out _ (hx.trans hx14)).mono ?_; rintro e w15 ⟨rfl, hx15⟩))
      have hc15 := Ext.cell_ hx15 hc2
      have HX15 := Lib.hid ((hx.trans hx14).trans hx15)
      have hr15 := Ext.range_ HX15.out HR13.out
      clear hc1 hc2 hx hx14 hx15
      by_cases h0 : 0 ≤ sg
      · have hab : ab = false := by
          cases hh : ab
          · rfl
          · have := HNOU.out hh; omega
        subst hab
        have i0 : sg ≥ 0 := h0
        refine wp_region_noPanic ?_
        refine wp_region_held_drew (S := fun W => Ext w15 W ∧ W.rangeAt lb 0 [.string ⟨r.name.toArray⟩, .string ⟨r.pattern.toArray⟩, .string ⟨r.system.toArray⟩, .string ⟨r.decimal.toArray⟩, .string ⟨r.group.toArray⟩, .string ⟨r.minus.toArray⟩, .string ⟨r.percent.toArray⟩, .string ⟨r.currency.toArray⟩, .slice A' p.pre.length c', .slice B' p.suf.length d', .slice C' p.npre.length a', .slice D' p.nsuf.length b', .int .i64 p.num.prim, .int .i64 p.num.sec, .int .i64 p.num.minInt, .int .i64 p.num.minFrac, .int .i64 p.num.maxFrac] ∧ W.cell? ⟨ab0, m, none⟩ = some (.string u)) (by kernel_rfl) ?_ (fun hHeld => ?_)
        · exact ⟨Ext.drew_ (Ext.refl _), hr15, hc15⟩
        refine take_ 0 (v := ?_) rfl (by kernel_rfl) (by kernel_rfl) (by kernel_rfl) (fun _ _ _ h => h) hHeld (by rfl) ?_ ?_
        rotate_left 1
        · (intro w hSw; (try dsimp only at hSw); go_simp; all_goals with_reducible rfl)
        try simp only [Act.put, List.setIfInBounds_toArray, List.set_cons_zero, List.set_cons_succ]
        refine takeRow_ (cs := [.string ⟨r.name.toArray⟩, .string ⟨r.pattern.toArray⟩, .string ⟨r.system.toArray⟩, .string ⟨r.decimal.toArray⟩, .string ⟨r.group.toArray⟩, .string ⟨r.minus.toArray⟩, .string ⟨r.percent.toArray⟩, .string ⟨r.currency.toArray⟩, .slice A' p.pre.length c', .slice B' p.suf.length d', .slice C' p.npre.length a', .slice D' p.nsuf.length b', .int .i64 p.num.prim, .int .i64 p.num.sec, .int .i64 p.num.minInt, .int .i64 p.num.minFrac, .int .i64 p.num.maxFrac]) 1 rfl (by kernel_rfl) (by kernel_rfl) (by kernel_rfl) (fun _ _ _ h => h) hHeld (by rfl) 61 ((.tmp 10)) rfl lb (0) rfl _ (fun _ h => h.2.1) Tryz.underlying61 rfl infoRL ?_
        try simp only [Act.put, List.setIfInBounds_toArray, List.set_cons_zero, List.set_cons_succ]
        refine take_ 2 (v := ?_) rfl (by kernel_rfl) (by kernel_rfl) (by kernel_rfl) (fun _ _ _ h => h) hHeld (by rfl) ?_ ?_
        rotate_left 1
        · (intro w hSw; (try dsimp only at hSw); go_simp; all_goals with_reducible rfl)
        try simp only [Act.put, List.setIfInBounds_toArray, List.set_cons_zero, List.set_cons_succ]
        refine take_ 3 (v := ?_) rfl (by kernel_rfl) (by kernel_rfl) (by kernel_rfl) (fun _ _ _ h => h) hHeld (by rfl) ?_ ?_
        rotate_left 1
        · (intro w hSw; (try dsimp only at hSw); go_simp; all_goals with_reducible rfl)
        try simp only [Act.put, List.setIfInBounds_toArray, List.set_cons_zero, List.set_cons_succ]
        refine take_ 4 (v := ?_) rfl (by kernel_rfl) (by kernel_rfl) (by kernel_rfl) (fun _ _ _ h => h) hHeld (by rfl) ?_ ?_
        rotate_left 1
        · (intro w hSw; (try dsimp only at hSw); go_simp; all_goals with_reducible rfl)
        try simp only [Act.put, List.setIfInBounds_toArray, List.set_cons_zero, List.set_cons_succ]
        refine take_ 5 (v := ?_) rfl (by kernel_rfl) (by kernel_rfl) (by kernel_rfl) (fun _ _ _ h => h) hHeld (by rfl) ?_ ?_
        rotate_left 1
        · (intro w hSw; (try dsimp only at hSw); go_simp; all_goals with_reducible rfl)
        try simp only [Act.put, List.setIfInBounds_toArray, List.set_cons_zero, List.set_cons_succ]
        refine only_ 6 rfl (by kernel_rfl) (fun K1 hK1 => ?_)
        go_simp
        go_at_call 35
        refine (HRSU.out _).mono ?_
        rintro e w16 ⟨rfl, hx16⟩
        refine hK1.out _ _ (⟨hHeld.1.trans hx16, Ext.range_ hx16 hHeld.2.1, Ext.cell_ hx16 hHeld.2.2⟩) (fun hHeld => ?_)
        clear hK1
        try simp only [Act.put, List.setIfInBounds_toArray, List.set_cons_zero, List.set_cons_succ]
        refine take_ 7 (v := ?_) rfl (by kernel_rfl) (by kernel_rfl) (by kernel_rfl) (fun _ _ _ h => h) hHeld (by rfl) ?_ ?_
        rotate_left 1
        · (intro w hSw; (try dsimp only at hSw); go_simp; all_goals with_reducible rfl)
        try simp only [Act.put, List.setIfInBounds_toArray, List.set_cons_zero, List.set_cons_succ]
        refine take_ 8 (v := ?_) rfl (by kernel_rfl) (by kernel_rfl) (by kernel_rfl) (fun _ _ _ h => h) hHeld (by rfl) ?_ ?_
        rotate_left 1
        · (intro w hSw; (try dsimp only at hSw); go_simp; all_goals with_reducible rfl)
        try simp only [Act.put, List.setIfInBounds_toArray, List.set_cons_zero, List.set_cons_succ]
        refine take_ 9 (v := ?_) rfl (by kernel_rfl) (by kernel_rfl) (by kernel_rfl) (fun _ _ _ h => h) hHeld (by rfl) ?_ ?_
        rotate_left 1
        · (intro w hSw; (try dsimp only at hSw); go_simp; all_goals with_reducible rfl)
        try simp only [Act.put, List.setIfInBounds_toArray, List.set_cons_zero, List.set_cons_succ]
        refine takeRow_ (cs := [.string ⟨r.name.toArray⟩, .string ⟨r.pattern.toArray⟩, .string ⟨r.system.toArray⟩, .string ⟨r.decimal.toArray⟩, .string ⟨r.group.toArray⟩, .string ⟨r.minus.toArray⟩, .string ⟨r.percent.toArray⟩, .string ⟨r.currency.toArray⟩, .slice A' p.pre.length c', .slice B' p.suf.length d', .slice C' p.npre.length a', .slice D' p.nsuf.length b', .int .i64 p.num.prim, .int .i64 p.num.sec, .int .i64 p.num.minInt, .int .i64 p.num.minFrac, .int .i64 p.num.maxFrac]) 10 rfl (by kernel_rfl) (by kernel_rfl) (by kernel_rfl) (fun _ _ _ h => h) hHeld (by rfl) 61 ((.tmp 10)) rfl lb (0) rfl _ (fun _ h => h.2.1) Tryz.underlying61 rfl infoRL ?_
        try simp only [Act.put, List.setIfInBounds_toArray, List.set_cons_zero, List.set_cons_succ]
        refine take_ 11 (v := ?_) rfl (by kernel_rfl) (by kernel_rfl) (by kernel_rfl) (fun _ _ _ h => h) hHeld (by rfl) ?_ ?_
        rotate_left 1
        · (intro w hSw; (try dsimp only at hSw); go_simp; all_goals with_reducible rfl)
        try simp only [Act.put, List.setIfInBounds_toArray, List.set_cons_zero, List.set_cons_succ]
        refine take_ 12 (v := ?_) rfl (by kernel_rfl) (by kernel_rfl) (by kernel_rfl) (fun _ _ _ h => h) hHeld (by rfl) ?_ ?_
        rotate_left 1
        · (intro w hSw; (try dsimp only at hSw); go_simp; all_goals with_reducible rfl)
        try simp only [Act.put, List.setIfInBounds_toArray, List.set_cons_zero, List.set_cons_succ]
        refine take_ 13 (v := ?_) rfl (by kernel_rfl) (by kernel_rfl) (by kernel_rfl) (fun _ _ _ h => h) hHeld (by rfl) ?_ ?_
        rotate_left 1
        · (intro w hSw; (try dsimp only at hSw); go_simp; all_goals with_reducible rfl)
        try simp only [Act.put, List.setIfInBounds_toArray, List.set_cons_zero, List.set_cons_succ]
        refine take_ 14 (v := ?_) rfl (by kernel_rfl) (by kernel_rfl) (by kernel_rfl) (fun _ _ _ h => h) hHeld (by rfl) ?_ ?_
        rotate_left 1
        · (intro w hSw; (try dsimp only at hSw); go_simp; all_goals with_reducible rfl)
        try simp only [Act.put, List.setIfInBounds_toArray, List.set_cons_zero, List.set_cons_succ]
        refine only_ 15 rfl (by kernel_rfl) (fun K1 hK1 => ?_)
        go_simp
        go_at_call 36
        refine (HRFU.out _ (HX15.out.trans hHeld.1)).mono ?_
        rintro e w17 ⟨rfl, hx17⟩
        refine hK1.out _ _ (⟨hHeld.1.trans hx17, Ext.range_ hx17 hHeld.2.1, Ext.cell_ hx17 hHeld.2.2⟩) (fun hHeld => ?_)
        clear hK1
        try simp only [Act.put, List.setIfInBounds_toArray, List.set_cons_zero, List.set_cons_succ]
        refine take_ 16 (v := ?_) rfl (by kernel_rfl) (by kernel_rfl) (by kernel_rfl) (fun _ _ _ h => h) hHeld (by rfl) ?_ ?_
        rotate_left 1
        · (intro w hSw; (try dsimp only at hSw); go_simp; all_goals with_reducible rfl)
        try simp only [Act.put, List.setIfInBounds_toArray, List.set_cons_zero, List.set_cons_succ]
        refine take_ 17 (v := ?_) rfl (by kernel_rfl) (by kernel_rfl) (by kernel_rfl) (fun _ _ _ h => h) hHeld (by rfl) ?_ ?_
        rotate_left 1
        · (intro w hSw; (try dsimp only at hSw); go_simp; all_goals with_reducible rfl)
        try simp only [Act.put, List.setIfInBounds_toArray, List.set_cons_zero, List.set_cons_succ]
        refine take_ 18 (v := ?_) rfl (by kernel_rfl) (by kernel_rfl) (by kernel_rfl) (fun _ _ _ h => h) hHeld (by rfl) ?_ ?_
        rotate_left 1
        · (intro w hSw; (try dsimp only at hSw); go_simp; all_goals with_reducible rfl)
        try simp only [Act.put, List.setIfInBounds_toArray, List.set_cons_zero, List.set_cons_succ]
        refine take_ 19 (v := ?_) rfl (by kernel_rfl) (by kernel_rfl) (by kernel_rfl) (fun _ _ _ h => h) hHeld (by rfl) ?_ ?_
        rotate_left 1
        · (intro w hSw; (try dsimp only at hSw); go_simp; all_goals with_reducible rfl)
        try simp only [Act.put, List.setIfInBounds_toArray, List.set_cons_zero, List.set_cons_succ]
        refine take_ 20 (v := ?_) rfl (by kernel_rfl) (by kernel_rfl) (by kernel_rfl) (fun _ _ _ h => h) hHeld (by rfl) ?_ ?_
        rotate_left 1
        · (intro w hSw; (try dsimp only at hSw); go_simp; all_goals with_reducible rfl)
        try simp only [Act.put, List.setIfInBounds_toArray, List.set_cons_zero, List.set_cons_succ]
        refine take_ 21 (v := ?_) rfl (by kernel_rfl) (by kernel_rfl) (by kernel_rfl) (fun _ _ _ h => h) hHeld (by rfl) ?_ ?_
        rotate_left 1
        · (intro w hSw; (try dsimp only at hSw); go_simp; all_goals with_reducible rfl)
        try simp only [Act.put, List.setIfInBounds_toArray, List.set_cons_zero, List.set_cons_succ]
        refine take_ 22 (v := ?_) rfl (by kernel_rfl) (by kernel_rfl) (by kernel_rfl) (fun _ _ _ h => h) hHeld (by rfl) ?_ ?_
        rotate_left 1
        · (intro w hSw; (try dsimp only at hSw); go_simp; all_goals with_reducible rfl)
        try simp only [Act.put, List.setIfInBounds_toArray, List.set_cons_zero, List.set_cons_succ]
        refine take_ 23 (v := ?_) rfl (by kernel_rfl) (by kernel_rfl) (by kernel_rfl) (fun _ _ _ h => h) hHeld (by rfl) ?_ ?_
        rotate_left 1
        · (intro w hSw; (try dsimp only at hSw); go_simp; all_goals with_reducible rfl)
        try simp only [Act.put, List.setIfInBounds_toArray, List.set_cons_zero, List.set_cons_succ]
        refine take_ 24 (v := ?_) rfl (by kernel_rfl) (by kernel_rfl) (by kernel_rfl) (fun _ _ _ h => h) hHeld (by rfl) ?_ ?_
        rotate_left 1
        · (intro w hSw; (try dsimp only at hSw); go_simp; all_goals with_reducible rfl)
        try simp only [Act.put, List.setIfInBounds_toArray, List.set_cons_zero, List.set_cons_succ]
        refine wpAnyH_done (by kernel_rfl) ?_ _
        refine NoPanic.normal ?_
        have HH := Lib.hid hHeld.1
        clear hHeld
        go_wp2
        exact ⟨⟨m + 1, by omega, by go_num, HX15.out.trans HH.out⟩, by simp [intOf]; omega⟩
      · have i0 : ¬ (sg ≥ 0) := h0
        refine wp_region_noPanic ?_
        refine wp_region_held_drew (S := fun W => Ext w15 W ∧ W.rangeAt lb 0 [.string ⟨r.name.toArray⟩, .string ⟨r.pattern.toArray⟩, .string ⟨r.system.toArray⟩, .string ⟨r.decimal.toArray⟩, .string ⟨r.group.toArray⟩, .string ⟨r.minus.toArray⟩, .string ⟨r.percent.toArray⟩, .string ⟨r.currency.toArray⟩, .slice A' p.pre.length c', .slice B' p.suf.length d', .slice C' p.npre.length a', .slice D' p.nsuf.length b', .int .i64 p.num.prim, .int .i64 p.num.sec, .int .i64 p.num.minInt, .int .i64 p.num.minFrac, .int .i64 p.num.maxFrac] ∧ W.cell? ⟨ab0, m, none⟩ = some (.string u)) (by kernel_rfl) ?_ (fun hHeld => ?_)
        · exact ⟨Ext.drew_ (Ext.refl _), hr15, hc15⟩
        refine take_ 0 (v := ?_) rfl (by kernel_rfl) (by kernel_rfl) (by kernel_rfl) (fun _ _ _ h => h) hHeld (by rfl) ?_ ?_
        rotate_left 1
        · (intro w hSw; (try dsimp only at hSw); go_simp; all_goals with_reducible rfl)
        try simp only [Act.put, List.setIfInBounds_toArray, List.set_cons_zero, List.set_cons_succ]
        refine takeRow_ (cs := [.string ⟨r.name.toArray⟩, .string ⟨r.pattern.toArray⟩, .string ⟨r.system.toArray⟩, .string ⟨r.decimal.toArray⟩, .string ⟨r.group.toArray⟩, .string ⟨r.minus.toArray⟩, .string ⟨r.percent.toArray⟩, .string ⟨r.currency.toArray⟩, .slice A' p.pre.length c', .slice B' p.suf.length d', .slice C' p.npre.length a', .slice D' p.nsuf.length b', .int .i64 p.num.prim, .int .i64 p.num.sec, .int .i64 p.num.minInt, .int .i64 p.num.minFrac, .int .i64 p.num.maxFrac]) 1 rfl (by kernel_rfl) (by kernel_rfl) (by kernel_rfl) (fun _ _ _ h => h) hHeld (by rfl) 61 ((.tmp 10)) rfl lb (0) rfl _ (fun _ h => h.2.1) Tryz.underlying61 rfl infoRL ?_
        try simp only [Act.put, List.setIfInBounds_toArray, List.set_cons_zero, List.set_cons_succ]
        refine take_ 2 (v := ?_) rfl (by kernel_rfl) (by kernel_rfl) (by kernel_rfl) (fun _ _ _ h => h) hHeld (by rfl) ?_ ?_
        rotate_left 1
        · (intro w hSw; (try dsimp only at hSw); go_simp; all_goals with_reducible rfl)
        try simp only [Act.put, List.setIfInBounds_toArray, List.set_cons_zero, List.set_cons_succ]
        refine take_ 3 (v := ?_) rfl (by kernel_rfl) (by kernel_rfl) (by kernel_rfl) (fun _ _ _ h => h) hHeld (by rfl) ?_ ?_
        rotate_left 1
        · (intro w hSw; (try dsimp only at hSw); go_simp; all_goals with_reducible rfl)
        try simp only [Act.put, List.setIfInBounds_toArray, List.set_cons_zero, List.set_cons_succ]
        refine take_ 4 (v := ?_) rfl (by kernel_rfl) (by kernel_rfl) (by kernel_rfl) (fun _ _ _ h => h) hHeld (by rfl) ?_ ?_
        rotate_left 1
        · (intro w hSw; (try dsimp only at hSw); go_simp; all_goals with_reducible rfl)
        try simp only [Act.put, List.setIfInBounds_toArray, List.set_cons_zero, List.set_cons_succ]
        refine take_ 5 (v := ?_) rfl (by kernel_rfl) (by kernel_rfl) (by kernel_rfl) (fun _ _ _ h => h) hHeld (by rfl) ?_ ?_
        rotate_left 1
        · (intro w hSw; (try dsimp only at hSw); go_simp; all_goals with_reducible rfl)
        try simp only [Act.put, List.setIfInBounds_toArray, List.set_cons_zero, List.set_cons_succ]
        refine only_ 6 rfl (by kernel_rfl) (fun K1 hK1 => ?_)
        go_simp
        go_at_call 35
        refine (HRSU.out _).mono ?_
        rintro e w16 ⟨rfl, hx16⟩
        refine hK1.out _ _ (⟨hHeld.1.trans hx16, Ext.range_ hx16 hHeld.2.1, Ext.cell_ hx16 hHeld.2.2⟩) (fun hHeld => ?_)
        clear hK1
        try simp only [Act.put, List.setIfInBounds_toArray, List.set_cons_zero, List.set_cons_succ]
        refine take_ 7 (v := ?_) rfl (by kernel_rfl) (by kernel_rfl) (by kernel_rfl) (fun _ _ _ h => h) hHeld (by rfl) ?_ ?_
        rotate_left 1
        · (intro w hSw; (try dsimp only at hSw); go_simp; all_goals with_reducible rfl)
        try simp only [Act.put, List.setIfInBounds_toArray, List.set_cons_zero, List.set_cons_succ]
        refine take_ 8 (v := ?_) rfl (by kernel_rfl) (by kernel_rfl) (by kernel_rfl) (fun _ _ _ h => h) hHeld (by rfl) ?_ ?_
        rotate_left 1
        · (intro w hSw; (try dsimp only at hSw); go_simp; all_goals with_reducible rfl)
        try simp only [Act.put, List.setIfInBounds_toArray, List.set_cons_zero, List.set_cons_succ]
        refine take_ 9 (v := ?_) rfl (by kernel_rfl) (by kernel_rfl) (by kernel_rfl) (fun _ _ _ h => h) hHeld (by rfl) ?_ ?_
        rotate_left 1
        · (intro w hSw; (try dsimp only at hSw); go_simp; all_goals with_reducible rfl)
        try simp only [Act.put, List.setIfInBounds_toArray, List.set_cons_zero, List.set_cons_succ]
        refine takeRow_ (cs := [.string ⟨r.name.toArray⟩, .string ⟨r.pattern.toArray⟩, .string ⟨r.system.toArray⟩, .string ⟨r.decimal.toArray⟩, .string ⟨r.group.toArray⟩, .string ⟨r.minus.toArray⟩, .string ⟨r.percent.toArray⟩, .string ⟨r.currency.toArray⟩, .slice A' p.pre.length c', .slice B' p.suf.length d', .slice C' p.npre.length a', .slice D' p.nsuf.length b', .int .i64 p.num.prim, .int .i64 p.num.sec, .int .i64 p.num.minInt, .int .i64 p.num.minFrac, .int .i64 p.num.maxFrac]) 10 rfl (by kernel_rfl) (by kernel_rfl) (by kernel_rfl) (fun _ _ _ h => h) hHeld (by rfl) 61 ((.tmp 10)) rfl lb (0) rfl _ (fun _ h => h.2.1) Tryz.underlying61 rfl infoRL ?_
        try simp only [Act.put, List.setIfInBounds_toArray, List.set_cons_zero, List.set_cons_succ]
        refine take_ 11 (v := ?_) rfl (by kernel_rfl) (by kernel_rfl) (by kernel_rfl) (fun _ _ _ h => h) hHeld (by rfl) ?_ ?_
        rotate_left 1
        · (intro w hSw; (try dsimp only at hSw); go_simp; all_goals with_reducible rfl)
        try simp only [Act.put, List.setIfInBounds_toArray, List.set_cons_zero, List.set_cons_succ]
        refine take_ 12 (v := ?_) rfl (by kernel_rfl) (by kernel_rfl) (by kernel_rfl) (fun _ _ _ h => h) hHeld (by rfl) ?_ ?_
        rotate_left 1
        · (intro w hSw; (try dsimp only at hSw); go_simp; all_goals with_reducible rfl)
        try simp only [Act.put, List.setIfInBounds_toArray, List.set_cons_zero, List.set_cons_succ]
        refine take_ 13 (v := ?_) rfl (by kernel_rfl) (by kernel_rfl) (by kernel_rfl) (fun _ _ _ h => h) hHeld (by rfl) ?_ ?_
        rotate_left 1
        · (intro w hSw; (try dsimp only at hSw); go_simp; all_goals with_reducible rfl)
        try simp only [Act.put, List.setIfInBounds_toArray, List.set_cons_zero, List.set_cons_succ]
        refine take_ 14 (v := ?_) rfl (by kernel_rfl) (by kernel_rfl) (by kernel_rfl) (fun _ _ _ h => h) hHeld (by rfl) ?_ ?_
        rotate_left 1
        · (intro w hSw; (try dsimp only at hSw); go_simp; all_goals with_reducible rfl)
        try simp only [Act.put, List.setIfInBounds_toArray, List.set_cons_zero, List.set_cons_succ]
        refine only_ 15 rfl (by kernel_rfl) (fun K1 hK1 => ?_)
        go_simp
        go_at_call 36
        refine (HRFU.out _ (HX15.out.trans hHeld.1)).mono ?_
        rintro e w17 ⟨rfl, hx17⟩
        refine hK1.out _ _ (⟨hHeld.1.trans hx17, Ext.range_ hx17 hHeld.2.1, Ext.cell_ hx17 hHeld.2.2⟩) (fun hHeld => ?_)
        clear hK1
        try simp only [Act.put, List.setIfInBounds_toArray, List.set_cons_zero, List.set_cons_succ]
        refine take_ 16 (v := ?_) rfl (by kernel_rfl) (by kernel_rfl) (by kernel_rfl) (fun _ _ _ h => h) hHeld (by rfl) ?_ ?_
        rotate_left 1
        · (intro w hSw; (try dsimp only at hSw); go_simp; all_goals with_reducible rfl)
        try simp only [Act.put, List.setIfInBounds_toArray, List.set_cons_zero, List.set_cons_succ]
        refine take_ 17 (v := ?_) rfl (by kernel_rfl) (by kernel_rfl) (by kernel_rfl) (fun _ _ _ h => h) hHeld (by rfl) ?_ ?_
        rotate_left 1
        · (intro w hSw; (try dsimp only at hSw); go_simp; all_goals with_reducible rfl)
        try simp only [Act.put, List.setIfInBounds_toArray, List.set_cons_zero, List.set_cons_succ]
        refine take_ 18 (v := ?_) rfl (by kernel_rfl) (by kernel_rfl) (by kernel_rfl) (fun _ _ _ h => h) hHeld (by rfl) ?_ ?_
        rotate_left 1
        · (intro w hSw; (try dsimp only at hSw); go_simp; all_goals with_reducible rfl)
        try simp only [Act.put, List.setIfInBounds_toArray, List.set_cons_zero, List.set_cons_succ]
        refine take_ 19 (v := ?_) rfl (by kernel_rfl) (by kernel_rfl) (by kernel_rfl) (fun _ _ _ h => h) hHeld (by rfl) ?_ ?_
        rotate_left 1
        · (intro w hSw; (try dsimp only at hSw); go_simp; all_goals with_reducible rfl)
        try simp only [Act.put, List.setIfInBounds_toArray, List.set_cons_zero, List.set_cons_succ]
        refine take_ 20 (v := ?_) rfl (by kernel_rfl) (by kernel_rfl) (by kernel_rfl) (fun _ _ _ h => h) hHeld (by rfl) ?_ ?_
        rotate_left 1
        · (intro w hSw; (try dsimp only at hSw); go_simp; all_goals with_reducible rfl)
        try simp only [Act.put, List.setIfInBounds_toArray, List.set_cons_zero, List.set_cons_succ]
        refine take_ 21 (v := ?_) rfl (by kernel_rfl) (by kernel_rfl) (by kernel_rfl) (fun _ _ _ h => h) hHeld (by rfl) ?_ ?_
        rotate_left 1
        · (intro w hSw; (try dsimp only at hSw); go_simp; all_goals with_reducible rfl)
        try simp only [Act.put, List.setIfInBounds_toArray, List.set_cons_zero, List.set_cons_succ]
        refine skip_ 22 rfl (by kernel_rfl) (by kernel_rfl) (by kernel_rfl) (fun _ _ _ h => h) hHeld (by rfl) ?_
        try simp only [Act.put, List.setIfInBounds_toArray, List.set_cons_zero, List.set_cons_succ]
        refine take_ 23 (v := ?_) rfl (by kernel_rfl) (by kernel_rfl) (by kernel_rfl) (fun _ _ _ h => h) hHeld (by rfl) ?_ ?_
        rotate_left 1
        · (intro w hSw; (try dsimp only at hSw); go_simp; all_goals with_reducible rfl)
        try simp only [Act.put, List.setIfInBounds_toArray, List.set_cons_zero, List.set_cons_succ]
        refine take_ 24 (v := ?_) rfl (by kernel_rfl) (by kernel_rfl) (by kernel_rfl) (fun _ _ _ h => h) hHeld (by rfl) ?_ ?_
        rotate_left 1
        · (intro w hSw; (try dsimp only at hSw); go_simp; all_goals with_reducible rfl)
        try simp only [Act.put, List.setIfInBounds_toArray, List.set_cons_zero, List.set_cons_succ]
        refine wpAnyH_done (by kernel_rfl) ?_ _
        refine NoPanic.normal ?_
        have HH := Lib.hid hHeld.1
        clear hHeld
        go_wp2
        exact ⟨⟨m + 1, by omega, by go_num, HX15.out.trans HH.out⟩, by simp [intOf]; omega⟩
    · have e : m = 10 := by omega
      subst e
      have i1 : ¬ ((10 : Int) < 10) := by omega
      have HLV := Lib.hid (HLIV.out wr ((HX8.out.trans HX13.out).trans hx))
      go_wp2_with (go_at_call 23; with_reducible refine HLV.out.mono ?_; rintro e w16 ⟨rfl, hx16⟩)
      go_ret
      exact ⟨rfl, HX3.out.trans (((HX8.out.trans HX13.out).trans hx).trans hx16)⟩
end Go.Proofs.YtdkjkbbibdppoaaGreatDoor.Loc
