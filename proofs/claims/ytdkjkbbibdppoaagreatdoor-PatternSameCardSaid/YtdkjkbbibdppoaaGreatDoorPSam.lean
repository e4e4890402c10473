/- The law PatternSame: whether two patterns are the same is told as the document says. -/
import Derived.Test.YtdkjkbbibdppoaaGreatDoorPRt
import Derived.Test.YtdkjkbbibdppoaaGreatDoorPSm
import Derived.Deep.RegionHeld3
import Derived.Deep.DeepCutAuto
import Derived.Great.BuildSlice
namespace Go.Proofs.YtdkjkbbibdppoaaGreatDoor.Pat
open Go.RowKit Utf All Small Strs Build EncC
set_option linter.unusedVariables false
set_option linter.unusedSimpArgs false
theorem infoG : (Tryz.prog.info? 24).map (·.size) = some 10 := by kernel_rfl
theorem gg_one {A B C D : Option Addr} {c d a b : Nat} {g : GG} : (ggV A B C D c d a b g).toArray.all (·.oneCell') = true := by simp [ggV, Value.oneCell']
/-- the numbers of one, the pieces of another -/
def mixG (g h : GG) : GG := ⟨h.pre, h.suf, h.two, h.npre, h.nsuf, g.zeros, g.prim, g.sec, g.minf, g.more⟩
theorem Box.sub {w : World} {B : Nat} {T : TypeId} (l1 l2 l3 : List Value) (h : Box w B T (l1 ++ l2 ++ l3)) : w.rangeAt B l1.length l2 := fun j v hv => by
  have hj : j < l2.length := (List.getElem?_eq_some_iff.1 hv).1
  exact h.cell (by rw [List.append_assoc, List.getElem?_append_right (by omega), Nat.add_sub_cancel_left, List.getElem?_append_left hj]; exact hv)
/-- the one of the three that is meant -/
def selG (g h : GG) (i : Nat) : GG := if i = 0 then g else if i = 1 then h else mixG g h
set_option maxHeartbeats 8000000 in
set_option maxRecDepth 2000000 in
theorem law_PatternSame (E0 E1 E2 E3 F0 F1 F2 F3 : Option Addr) (e0 e1 e2 e3 f0 f1 f2 f3 : Nat) (g h : GG) (w : World) (hg : GgR w E0 E1 E2 E3 g) (hh : GgR w F0 F1 F2 F3 h) (h0 : 2 < w.heap.size) (HM : ∃ m, w.cell? ⟨2, 0, none⟩ = some (.int .i64 m)) :
    Calls Tryz.prog 3 #[.agg (ggV E0 E1 E2 E3 e0 e1 e2 e3 g).toArray, .agg (ggV F0 F1 F2 F3 f0 f1 f2 f3 h).toArray] w fun e w' => e = .returned (.bool true) ∧ Below w.heap.size w w' := by
  have hm : GgR w F0 F1 F2 F3 (mixG g h) := ⟨hh.rA, hh.rB, hh.rC, hh.rD, hh.bA, hh.bB, hh.bC, hh.bD, hg.nums⟩
  have b1 := (Box.new w 24 (ggV E0 E1 E2 E3 e0 e1 e2 e3 g)).alloc (.cells (ggV F0 F1 F2 F3 f0 f1 f2 f3 h).toArray 24)
  have b2 : Box ((w.alloc (.cells (ggV E0 E1 E2 E3 e0 e1 e2 e3 g).toArray 24)).alloc (.cells (ggV F0 F1 F2 F3 f0 f1 f2 f3 h).toArray 24)) (w.heap.size + 1) 24 (ggV F0 F1 F2 F3 f0 f1 f2 f3 h) := by
    have := Box.new (w.alloc (.cells (ggV E0 E1 E2 E3 e0 e1 e2 e3 g).toArray 24)) 24 (ggV F0 F1 F2 F3 f0 f1 f2 f3 h)
    rwa [World.size_alloc] at this
  have hx : Ext w ((w.alloc (.cells (ggV E0 E1 E2 E3 e0 e1 e2 e3 g).toArray 24)).alloc (.cells (ggV F0 F1 F2 F3 f0 f1 f2 f3 h).toArray 24)) := Ext.alloc_ (Ext.alloc_ (Ext.refl w) _) _
  have hz : ((w.alloc (.cells (ggV E0 E1 E2 E3 e0 e1 e2 e3 g).toArray 24)).alloc (.cells (ggV F0 F1 F2 F3 f0 f1 f2 f3 h).toArray 24)).heap.size = w.heap.size + 2 := by simp
  obtain ⟨vals, hv⟩ : ∃ vals : Nat → List Value, vals = fun i => if i = 0 then ggV E0 E1 E2 E3 e0 e1 e2 e3 g else if i = 1 then ggV F0 F1 F2 F3 f0 f1 f2 f3 h else ggV F0 F1 F2 F3 f0 f1 f2 f3 (mixG g h) := ⟨_, rfl⟩
  have HT0 : Hid (∀ i W, i < 3 → Ext w W → Calls Tryz.prog 12 #[.agg (vals i).toArray] W fun e w' => e = .returned (.string ⟨(textF (selG g h i)).toArray⟩) ∧ Ext W w') := Lib.hid (fun i W hi hW => by
    subst hv
    match i, hi with
    | 0, _ => exact text_ _ _ _ _ _ _ _ _ g W (hg.ext hW)
    | 1, _ => exact text_ _ _ _ _ _ _ _ _ h W (hh.ext hW)
    | 2, _ => exact text_ _ _ _ _ _ _ _ _ (mixG g h) W (hm.ext hW))
  have HP1 : Hid (∀ i W, Calls Tryz.prog 11 #[.string ⟨(textF (selG g h i)).toArray⟩] W fun e w' => ∃ A c B d C a D b, e = .returned (.tuple #[.agg (patC (.slice A (ptOf (selG g h i)).pre.length c) (.slice B (ptOf (selG g h i)).suf.length d) (.slice C (ptOf (selG g h i)).npre.length a) (.slice D (ptOf (selG g h i)).nsuf.length b) (ptOf (selG g h i)).num).toArray, .int .i64 0]) ∧ PtR w' A B C D (ptOf (selG g h i)) ∧ Ext W w') := Lib.hid (fun i W => (parse_okl (parse_text (selG g h i)) W (by have := textF_len (selG g h i); omega)).mono fun e w' ⟨A, c, B, d, C, a, D, b, q, h1, h2, h3, h4, _, _, _, _, hx⟩ => ⟨A, c, B, d, C, a, D, b, q, ⟨h1, h2, h3, h4⟩, hx⟩)
  have HP2 : Hid (∀ i W, Calls Tryz.prog 13 #[.string ⟨(textF (selG g h i)).toArray⟩] W fun e w' => ∃ A c B d C a D b, e = .returned (.tuple #[.agg (patC (.slice A (ptOf (selG g h i)).pre.length c) (.slice B (ptOf (selG g h i)).suf.length d) (.slice C (ptOf (selG g h i)).npre.length a) (.slice D (ptOf (selG g h i)).nsuf.length b) (ptOf (selG g h i)).num).toArray, .int .i64 0]) ∧ PtR w' A B C D (ptOf (selG g h i)) ∧ Ext W w') := Lib.hid (fun i W => parse_ref_text (selG g h i) W)
  have HPB : Hid (∀ i, PtB (ptOf (selG g h i))) := Lib.hid (fun i => ptOf_PB _)
  obtain ⟨tx, htx⟩ : ∃ tx : Nat → List UInt8, tx = fun i => textF (selG g h i) := ⟨_, rfl⟩
  obtain ⟨pt, hpt⟩ : ∃ pt : Nat → Pt, pt = fun i => ptOf (selG g h i) := ⟨_, rfl⟩
  have HT : Hid (∀ i W, i < 3 → Ext w W → Calls Tryz.prog 12 #[.agg (vals i).toArray] W fun e w' => e = .returned (.string ⟨(tx i).toArray⟩) ∧ Ext W w') := by subst htx; exact HT0
  have HP : Hid (∀ i W, Calls Tryz.prog 11 #[.string ⟨(tx i).toArray⟩] W fun e w' => ∃ A c B d C a D b, e = .returned (.tuple #[.agg (patC (.slice A (pt i).pre.length c) (.slice B (pt i).suf.length d) (.slice C (pt i).npre.length a) (.slice D (pt i).nsuf.length b) (pt i).num).toArray, .int .i64 0]) ∧ PtR w' A B C D (pt i) ∧ Ext W w') := by subst htx; subst hpt; exact HP1
  have HQ : Hid (∀ i W, Calls Tryz.prog 13 #[.string ⟨(tx i).toArray⟩] W fun e w' => ∃ A c B d C a D b, e = .returned (.tuple #[.agg (patC (.slice A (pt i).pre.length c) (.slice B (pt i).suf.length d) (.slice C (pt i).npre.length a) (.slice D (pt i).nsuf.length b) (pt i).num).toArray, .int .i64 0]) ∧ PtR w' A B C D (pt i) ∧ Ext W w') := by subst htx; subst hpt; exact HP2
  have HB : Hid (∀ i, PtB (pt i)) := by subst hpt; exact HPB
  have HV := Lib.hid hv
  clear HT0 HP1 HP2 HPB htx hpt hv
  go_enter Tryz.func3, Tryz.ntmps3
  go_upto_region 1 with fail
  change Code.wp _ _ _ _ ((w.alloc (.cells (ggV E0 E1 E2 E3 e0 e1 e2 e3 g).toArray 24)).alloc (.cells (ggV F0 F1 F2 F3 f0 f1 f2 f3 h).toArray 24))
  generalize (w.alloc (.cells (ggV E0 E1 E2 E3 e0 e1 e2 e3 g).toArray 24)).alloc (.cells (ggV F0 F1 F2 F3 f0 f1 f2 f3 h).toArray 24) = w2 at *
  have b3 := Box.new w2 24 (ggV F0 F1 F2 F3 f0 f1 f2 f3 h)
  have hr2 := b2.range
  have HB1 := Lib.hid b1
  have HB2 := Lib.hid b2
  have HB3 := Lib.hid b3
  have HX := Lib.hid hx
  have HZ := Lib.hid hz
  have HR2 := Lib.hid hr2
  clear b1 b2 b3 hx hz hr2
  go_upto_region 2 with (first
    | (refine wpList_load_mid rfl 24 (.tmp 3) rfl (w.heap.size + 1) 0 rfl (ggV F0 F1 F2 F3 f0 f1 f2 f3 h) _ HR2.out Tryz.underlying24 rfl infoG ?_)
    | (refine wpList_store_fresh rfl 24 (.tmp 5) (.tmp 17) rfl (ggV F0 F1 F2 F3 f0 f1 f2 f3 h).toArray 24 _ rfl rfl infoG rfl gg_one ?_))
  have a0 := HB1.out.ext (Ext.alloc_ (Ext.refl w2) (.cells (ggV F0 F1 F2 F3 f0 f1 f2 f3 h).toArray 24))
  have d0 := HB2.out.ext (Ext.alloc_ (Ext.refl w2) (.cells (ggV F0 F1 F2 F3 f0 f1 f2 f3 h).toArray 24))
  have c0 := HB3.out
  have hx3 := HX.out.trans (Ext.alloc_ (Ext.refl w2) (.cells (ggV F0 F1 F2 F3 f0 f1 f2 f3 h).toArray 24))
  generalize w2.alloc (.cells (ggV F0 F1 F2 F3 f0 f1 f2 f3 h).toArray 24) = w3 at *
  have hne1 : w2.heap.size ≠ w.heap.size := by have := HZ.out; omega
  have hne2 : w2.heap.size ≠ w.heap.size + 1 := by have := HZ.out; omega
  have hge : w.heap.size ≤ w2.heap.size := by have := HZ.out; omega
  have k5 := a0.cell (j := 5) (v := .int .i64 g.zeros) rfl
  have m5 := c0.cell (j := 5) (v := .int .i64 h.zeros) rfl
  have n5 := c0.frozen 5
  have a1 := a0.setCell1 w2.heap.size (.int .i64 g.zeros) hne1 5
  have d1 := d0.setCell1 w2.heap.size (.int .i64 g.zeros) hne2 5
  have c1 := c0.setCell 5 (.int .i64 g.zeros)
  have k6 := a1.cell (j := 6) (v := .int .i64 g.prim) rfl
  have m6 := c1.cell (j := 6) (v := .int .i64 h.prim) rfl
  have n6 := c1.frozen 6
  have a2 := a1.setCell1 w2.heap.size (.int .i64 g.prim) hne1 6
  have d2 := d1.setCell1 w2.heap.size (.int .i64 g.prim) hne2 6
  have c2 := c1.setCell 6 (.int .i64 g.prim)
  have k7 := a2.cell (j := 7) (v := .int .i64 g.sec) rfl
  have m7 := c2.cell (j := 7) (v := .int .i64 h.sec) rfl
  have n7 := c2.frozen 7
  have a3 := a2.setCell1 w2.heap.size (.int .i64 g.sec) hne1 7
  have d3 := d2.setCell1 w2.heap.size (.int .i64 g.sec) hne2 7
  have c3 := c2.setCell 7 (.int .i64 g.sec)
  have k8 := a3.cell (j := 8) (v := .int .i64 g.minf) rfl
  have m8 := c3.cell (j := 8) (v := .int .i64 h.minf) rfl
  have n8 := c3.frozen 8
  have a4 := a3.setCell1 w2.heap.size (.int .i64 g.minf) hne1 8
  have d4 := d3.setCell1 w2.heap.size (.int .i64 g.minf) hne2 8
  have c4 := c3.setCell 8 (.int .i64 g.minf)
  have k9 := a4.cell (j := 9) (v := .int .i64 g.more) rfl
  have m9 := c4.cell (j := 9) (v := .int .i64 h.more) rfl
  have n9 := c4.frozen 9
  have a5 := a4.setCell1 w2.heap.size (.int .i64 g.more) hne1 9
  have d5 := d4.setCell1 w2.heap.size (.int .i64 g.more) hne2 9
  have c5 : Box _ w2.heap.size 24 (ggV F0 F1 F2 F3 f0 f1 f2 f3 (mixG g h)) := c4.setCell 9 (.int .i64 g.more)
  have hx8 : Ext w (((((w3.setCell ⟨w2.heap.size, 5, none⟩ (.int .i64 g.zeros)).setCell ⟨w2.heap.size, 6, none⟩ (.int .i64 g.prim)).setCell ⟨w2.heap.size, 7, none⟩ (.int .i64 g.sec)).setCell ⟨w2.heap.size, 8, none⟩ (.int .i64 g.minf)).setCell ⟨w2.heap.size, 9, none⟩ (.int .i64 g.more)) :=
    Ext.setCell_ (Ext.setCell_ (Ext.setCell_ (Ext.setCell_ (Ext.setCell_ hx3 hge _ _) hge _ _) hge _ _) hge _ _) hge _ _
  have HA5 := Lib.hid a5
  have HD5 := Lib.hid d5
  have HC5 := Lib.hid c5
  have HX8 := Lib.hid hx8
  clear a0 d0 c0 a1 d1 c1 a2 d2 c2 a3 d3 c3 a4 d4 c4 a5 d5 c5 hx3 hx8 hne1 hne2 HB1 HB2 HB3 HX HR2
  go_upto_region 7 with fail
  generalize ((((w3.setCell ⟨w2.heap.size, 5, none⟩ (.int .i64 g.zeros)).setCell ⟨w2.heap.size, 6, none⟩ (.int .i64 g.prim)).setCell ⟨w2.heap.size, 7, none⟩ (.int .i64 g.sec)).setCell ⟨w2.heap.size, 8, none⟩ (.int .i64 g.minf)).setCell ⟨w2.heap.size, 9, none⟩ (.int .i64 g.more) = w8 at *
  have HRA := Lib.hid HA5.out.range
  have HRD := Lib.hid HD5.out.range
  have HRC := Lib.hid HC5.out.range
  clear k5 m5 n5 k6 m6 n6 k7 m7 n7 k8 m8 n8 k9 m9 n9
  have hi : (Tryz.prog.info? 24).map (fun i => (i.zero, i.size)) = some (some (.agg #[nilS, nilS, .bool false, nilS, nilS, .int .i64 0, .int .i64 0, .int .i64 0, .int .i64 0, .int .i64 0]), 10) := by kernel_rfl
  obtain ⟨ie, hie, hz, hsz⟩ : ∃ ie, Tryz.prog.info? 24 = some ie ∧ ie.zero = some (.agg #[nilS, nilS, .bool false, nilS, nilS, .int .i64 0, .int .i64 0, .int .i64 0, .int .i64 0, .int .i64 0]) ∧ ie.size = 10 := by
    cases h : Tryz.prog.info? 24 with
    | none => rw [h] at hi; cases hi
    | some ie =>
      rw [h] at hi
      simp only [Option.map_some, Option.some.injEq, Prod.mk.injEq] at hi
      exact ⟨ie, rfl, hi.1, hi.2⟩
  clear hi
  go_upto_region 8 with (first
    | (refine wpList_load_mid rfl 24 (.tmp 2) rfl w.heap.size 0 rfl (ggV E0 E1 E2 E3 e0 e1 e2 e3 g) _ HRA.out Tryz.underlying24 rfl infoG ?_)
    | (refine wpList_load_mid rfl 24 (.tmp 3) rfl (w.heap.size + 1) 0 rfl (ggV F0 F1 F2 F3 f0 f1 f2 f3 h) _ HRD.out Tryz.underlying24 rfl infoG ?_)
    | (refine wpList_load_mid rfl 24 (.tmp 5) rfl w2.heap.size 0 rfl (ggV F0 F1 F2 F3 f0 f1 f2 f3 (mixG g h)) _ HRC.out Tryz.underlying24 rfl infoG ?_)
    | (refine wpList_buildSlice rfl 25 24 3 _ rfl (ggV E0 E1 E2 E3 e0 e1 e2 e3 g ++ ggV F0 F1 F2 F3 f0 f1 f2 f3 h ++ ggV F0 F1 F2 F3 f0 f1 f2 f3 (mixG g h)).toArray ie _ Tryz.underlying25 hie hz (by rw [hsz]; decide) (by rw [hsz]; decide) ?fill ?_))
  case fill =>
    simp [ggV, List.zipIdx]
  have HBX0 := Lib.hid (Box.new w8 24 (ggV E0 E1 E2 E3 e0 e1 e2 e3 g ++ ggV F0 F1 F2 F3 f0 f1 f2 f3 h ++ ggV F0 F1 F2 F3 f0 f1 f2 f3 (mixG g h)))
  have hx9 := Ext.alloc_ HX8.out (.cells (ggV E0 E1 E2 E3 e0 e1 e2 e3 g ++ ggV F0 F1 F2 F3 f0 f1 f2 f3 h ++ ggV F0 F1 F2 F3 f0 f1 f2 f3 (mixG g h)).toArray 24)
  rw [← List.append_assoc]
  generalize w8.alloc (.cells (ggV E0 E1 E2 E3 e0 e1 e2 e3 g ++ ggV F0 F1 F2 F3 f0 f1 f2 f3 h ++ ggV F0 F1 F2 F3 f0 f1 f2 f3 (mixG g h)).toArray 24) = w9 at *
  have HRG : Hid (∀ i W, i < 3 → Ext w9 W → W.rangeAt w8.heap.size (i * 10) (vals i)) := Lib.hid (fun i W hi hW => by
    rw [HV.out]
    have hb := HBX0.out.ext hW
    match i, hi with
    | 0, _ => exact Box.sub [] (ggV E0 E1 E2 E3 e0 e1 e2 e3 g) (ggV F0 F1 F2 F3 f0 f1 f2 f3 h ++ ggV F0 F1 F2 F3 f0 f1 f2 f3 (mixG g h)) (by rw [List.nil_append, ← List.append_assoc]; exact hb)
    | 1, _ => exact Box.sub (ggV E0 E1 E2 E3 e0 e1 e2 e3 g) (ggV F0 F1 F2 F3 f0 f1 f2 f3 h) (ggV F0 F1 F2 F3 f0 f1 f2 f3 (mixG g h)) hb
    | 2, _ => exact Box.sub (ggV E0 E1 E2 E3 e0 e1 e2 e3 g ++ ggV F0 F1 F2 F3 f0 f1 f2 f3 h) (ggV F0 F1 F2 F3 f0 f1 f2 f3 (mixG g h)) [] (by rw [List.append_nil]; exact hb))
  have HVL : Hid (∀ i, (vals i).length = 10) := Lib.hid (fun i => by
    rw [HV.out]
    dsimp only
    split
    · rfl
    · split <;> rfl)
  have HX9 := Lib.hid hx9
  generalize w8.heap.size = N at *
  clear HBX0 hx9 HV hie hz hsz HRA HRD HRC HA5 HD5 HC5 HX8 hg hh hm HZ hge
  --LOOP
  go_wp2
  go_loopw [7] (fun i wr => ∃ i' : Nat, i' ≤ 3 ∧ i = .int .i64 i' ∧ Ext w9 wr) (fun i _ => 3 - (intOf i).toNat)
  case atStart => exact ⟨0, by omega, rfl, Ext.refl _⟩
  case round =>
    obtain ⟨i, hi, rfl, hxr⟩ := hrel
    by_cases hi3 : i < 3
    · have i1 : (i : Int) < 3 := by omega
      go_wp2_with fail
      go_loopw [8] (fun j wr => ∃ j' : Nat, j' ≤ 3 ∧ j = .int .i64 j' ∧ Ext w9 wr) (fun j _ => 3 - (intOf j).toNat)
      case atStart => exact ⟨0, by omega, rfl, hxr⟩
      case round =>
        obtain ⟨j, hj, rfl, hx0⟩ := hrel
        by_cases hj3 : j < 3
        · have j1 : (j : Int) < 3 := by omega
          have HI1 : (Tryz.prog.info? 24).map (·.size) = some (vals i).length := by rw [HVL.out]; exact infoG
          have HJ1 : (Tryz.prog.info? 24).map (·.size) = some (vals j).length := by rw [HVL.out]; exact infoG
          have HX0 := Lib.hid hx0
          clear hx0 hxr
          have HR0 := Lib.hid (HRG.out i _ hi3 HX0.out)
          go_wp2_with (refine wpList_load_mid rfl 24 (.tmp 48) rfl N (i * 10) rfl (vals i) _ HR0.out Tryz.underlying24 rfl HI1 ?_)
          refine (HT.out i _ hi3 (HX9.out.trans HX0.out)).mono ?_; rintro e wt0 ⟨rfl, hxt⟩
          have HT0 := Lib.hid (HX0.out.trans hxt)
          have HQT0 := Lib.hid hxt
          clear hxt
          go_wp2_with fail
          refine (HP.out i _).mono ?_; rintro e wp0 ⟨A0, c0, B0, d0, C0, a0, D0, b0, rfl, hp, hxp⟩
          have HB0 := Lib.hid (Box.new wp0 28 (patC (.slice A0 (pt i).pre.length c0) (.slice B0 (pt i).suf.length d0) (.slice C0 (pt i).npre.length a0) (.slice D0 (pt i).nsuf.length b0) (pt i).num))
          have hxn : Ext wp0 (wp0.alloc (.cells (patC (.slice A0 (pt i).pre.length c0) (.slice B0 (pt i).suf.length d0) (.slice C0 (pt i).npre.length a0) (.slice D0 (pt i).nsuf.length b0) (pt i).num).toArray 28)) := Ext.alloc_ (Ext.refl _) _
          have HST0 := Lib.hid ((HQT0.out.trans hxp).trans hxn)
          have HN0 := Lib.hid hxn
          have HX1 := Lib.hid ((HT0.out.trans hxp).trans hxn)
          have HPT0 := Lib.hid (hp.ext hxn)
          have HR1 := Lib.hid (HRG.out j _ hj3 HX1.out)
          clear hp hxp hxn
          go_wp2_with (first | (refine wpList_store_fresh rfl 28 (.tmp 9) (.tmp 52) rfl (patC (.slice A0 (pt i).pre.length c0) (.slice B0 (pt i).suf.length d0) (.slice C0 (pt i).npre.length a0) (.slice D0 (pt i).nsuf.length b0) (pt i).num).toArray 28 _ rfl rfl infoPat rfl pat_one ?_) | (refine wpList_load_mid rfl 24 (.tmp 57) rfl N (j * 10) rfl (vals j) _ HR1.out Tryz.underlying24 rfl HJ1 ?_))
          refine (HT.out j _ hj3 (HX9.out.trans HX1.out)).mono ?_; rintro e wt1 ⟨rfl, hxt⟩
          have HT1 := Lib.hid (HX1.out.trans hxt)
          have HQT1 := Lib.hid hxt
          clear hxt
          go_wp2_with fail
          refine (HP.out j _).mono ?_; rintro e wp1 ⟨A1, c1, B1, d1, C1, a1, D1, b1, rfl, hp, hxp⟩
          have HB1 := Lib.hid (Box.new wp1 28 (patC (.slice A1 (pt j).pre.length c1) (.slice B1 (pt j).suf.length d1) (.slice C1 (pt j).npre.length a1) (.slice D1 (pt j).nsuf.length b1) (pt j).num))
          have hxn : Ext wp1 (wp1.alloc (.cells (patC (.slice A1 (pt j).pre.length c1) (.slice B1 (pt j).suf.length d1) (.slice C1 (pt j).npre.length a1) (.slice D1 (pt j).nsuf.length b1) (pt j).num).toArray 28)) := Ext.alloc_ (Ext.refl _) _
          have HST1 := Lib.hid ((HQT1.out.trans hxp).trans hxn)
          have HN1 := Lib.hid hxn
          have HX2 := Lib.hid ((HT1.out.trans hxp).trans hxn)
          have HPT1 := Lib.hid (hp.ext hxn)
          have HR2 := Lib.hid (HRG.out i _ hi3 HX2.out)
          clear hp hxp hxn
          go_wp2_with (first | (refine wpList_store_fresh rfl 28 (.tmp 11) (.tmp 61) rfl (patC (.slice A1 (pt j).pre.length c1) (.slice B1 (pt j).suf.length d1) (.slice C1 (pt j).npre.length a1) (.slice D1 (pt j).nsuf.length b1) (pt j).num).toArray 28 _ rfl rfl infoPat rfl pat_one ?_) | (refine wpList_load_mid rfl 24 (.tmp 66) rfl N (i * 10) rfl (vals i) _ HR2.out Tryz.underlying24 rfl HI1 ?_))
          refine (HT.out i _ hi3 (HX9.out.trans HX2.out)).mono ?_; rintro e wt2 ⟨rfl, hxt⟩
          have HT2 := Lib.hid (HX2.out.trans hxt)
          have HQT2 := Lib.hid hxt
          clear hxt
          go_wp2_with fail
          refine (HQ.out i _).mono ?_; rintro e wp2 ⟨A2, c2, B2, d2, C2, a2, D2, b2, rfl, hp, hxp⟩
          have HB2 := Lib.hid (Box.new wp2 35 (patC (.slice A2 (pt i).pre.length c2) (.slice B2 (pt i).suf.length d2) (.slice C2 (pt i).npre.length a2) (.slice D2 (pt i).nsuf.length b2) (pt i).num))
          have hxn : Ext wp2 (wp2.alloc (.cells (patC (.slice A2 (pt i).pre.length c2) (.slice B2 (pt i).suf.length d2) (.slice C2 (pt i).npre.length a2) (.slice D2 (pt i).nsuf.length b2) (pt i).num).toArray 35)) := Ext.alloc_ (Ext.refl _) _
          have HST2 := Lib.hid ((HQT2.out.trans hxp).trans hxn)
          have HN2 := Lib.hid hxn
          have HX3 := Lib.hid ((HT2.out.trans hxp).trans hxn)
          have HPT2 := Lib.hid (hp.ext hxn)
          have HR3 := Lib.hid (HRG.out j _ hj3 HX3.out)
          clear hp hxp hxn
          go_wp2_with (first | (refine wpList_store_fresh rfl 35 (.tmp 13) (.tmp 70) rfl (patC (.slice A2 (pt i).pre.length c2) (.slice B2 (pt i).suf.length d2) (.slice C2 (pt i).npre.length a2) (.slice D2 (pt i).nsuf.length b2) (pt i).num).toArray 35 _ rfl rfl infoP rfl pat_one ?_) | (refine wpList_load_mid rfl 24 (.tmp 75) rfl N (j * 10) rfl (vals j) _ HR3.out Tryz.underlying24 rfl HJ1 ?_))
          refine (HT.out j _ hj3 (HX9.out.trans HX3.out)).mono ?_; rintro e wt3 ⟨rfl, hxt⟩
          have HT3 := Lib.hid (HX3.out.trans hxt)
          have HQT3 := Lib.hid hxt
          clear hxt
          go_wp2_with fail
          refine (HQ.out j _).mono ?_; rintro e wp3 ⟨A3, c3, B3, d3, C3, a3, D3, b3, rfl, hp, hxp⟩
          have HB3 := Lib.hid (Box.new wp3 35 (patC (.slice A3 (pt j).pre.length c3) (.slice B3 (pt j).suf.length d3) (.slice C3 (pt j).npre.length a3) (.slice D3 (pt j).nsuf.length b3) (pt j).num))
          have hxn : Ext wp3 (wp3.alloc (.cells (patC (.slice A3 (pt j).pre.length c3) (.slice B3 (pt j).suf.length d3) (.slice C3 (pt j).npre.length a3) (.slice D3 (pt j).nsuf.length b3) (pt j).num).toArray 35)) := Ext.alloc_ (Ext.refl _) _
          have HST3 := Lib.hid ((HQT3.out.trans hxp).trans hxn)
          have HN3 := Lib.hid hxn
          have HX4 := Lib.hid ((HT3.out.trans hxp).trans hxn)
          have HPT3 := Lib.hid (hp.ext hxn)
          clear hp hxp hxn
          go_upto_region 18 with (refine wpList_store_fresh rfl 35 (.tmp 15) (.tmp 79) rfl (patC (.slice A3 (pt j).pre.length c3) (.slice B3 (pt j).suf.length d3) (.slice C3 (pt j).npre.length a3) (.slice D3 (pt j).nsuf.length b3) (pt j).num).toArray 35 _ rfl rfl infoP rfl pat_one ?_)
          have q3 := Ext.refl (wp3.alloc (.cells (patC (.slice A3 (pt j).pre.length c3) (.slice B3 (pt j).suf.length d3) (.slice C3 (pt j).npre.length a3) (.slice D3 (pt j).nsuf.length b3) (pt j).num).toArray 35))
          have q2 := HST3.out.trans q3
          have q1 := HST2.out.trans q2
          have q0 := HST1.out.trans q1
          have HBX0 := Lib.hid (HB0.out.ext q0)
          have HPP0 := Lib.hid (HPT0.out.ext q0)
          have HBX1 := Lib.hid (HB1.out.ext q1)
          have HPP1 := Lib.hid (HPT1.out.ext q1)
          have HBX2 := Lib.hid (HB2.out.ext q2)
          have HPP2 := Lib.hid (HPT2.out.ext q2)
          have HBX3 := Lib.hid (HB3.out.ext q3)
          have HPP3 := Lib.hid (HPT3.out.ext q3)
          clear q0 q1 q2 q3 HB0 HB1 HB2 HB3 HPT0 HPT1 HPT2 HPT3 HST0 HST1 HST2 HST3 HR0 HR1 HR2 HR3 HN0 HN1 HN2 HN3 HX1 HX2 HX3 HT0 HT1 HT2 HT3 HQT0 HQT1 HQT2 HQT3
          generalize wp3.alloc (.cells (patC (.slice A3 (pt j).pre.length c3) (.slice B3 (pt j).suf.length d3) (.slice C3 (pt j).npre.length a3) (.slice D3 (pt j).nsuf.length b3) (pt j).num).toArray 35) = w13 at *
          have k00 := HBX0.out.cell (j := 0) (v := .slice A0 (pt i).pre.length c0) rfl
          have k01 := HBX0.out.cell (j := 1) (v := .slice B0 (pt i).suf.length d0) rfl
          have k02 := HBX0.out.cell (j := 2) (v := .slice C0 (pt i).npre.length a0) rfl
          have k03 := HBX0.out.cell (j := 3) (v := .slice D0 (pt i).nsuf.length b0) rfl
          have k04 := HBX0.out.cell (j := 4) (v := .int .i64 (pt i).num.prim) rfl
          have k05 := HBX0.out.cell (j := 5) (v := .int .i64 (pt i).num.sec) rfl
          have k06 := HBX0.out.cell (j := 6) (v := .int .i64 (pt i).num.minInt) rfl
          have k07 := HBX0.out.cell (j := 7) (v := .int .i64 (pt i).num.minFrac) rfl
          have k08 := HBX0.out.cell (j := 8) (v := .int .i64 (pt i).num.maxFrac) rfl
          have k10 := HBX1.out.cell (j := 0) (v := .slice A1 (pt j).pre.length c1) rfl
          have k11 := HBX1.out.cell (j := 1) (v := .slice B1 (pt j).suf.length d1) rfl
          have k12 := HBX1.out.cell (j := 2) (v := .slice C1 (pt j).npre.length a1) rfl
          have k13 := HBX1.out.cell (j := 3) (v := .slice D1 (pt j).nsuf.length b1) rfl
          have k14 := HBX1.out.cell (j := 4) (v := .int .i64 (pt j).num.prim) rfl
          have k15 := HBX1.out.cell (j := 5) (v := .int .i64 (pt j).num.sec) rfl
          have k16 := HBX1.out.cell (j := 6) (v := .int .i64 (pt j).num.minInt) rfl
          have k17 := HBX1.out.cell (j := 7) (v := .int .i64 (pt j).num.minFrac) rfl
          have k18 := HBX1.out.cell (j := 8) (v := .int .i64 (pt j).num.maxFrac) rfl
          have k20 := HBX2.out.cell (j := 0) (v := .slice A2 (pt i).pre.length c2) rfl
          have k21 := HBX2.out.cell (j := 1) (v := .slice B2 (pt i).suf.length d2) rfl
          have k22 := HBX2.out.cell (j := 2) (v := .slice C2 (pt i).npre.length a2) rfl
          have k23 := HBX2.out.cell (j := 3) (v := .slice D2 (pt i).nsuf.length b2) rfl
          have k24 := HBX2.out.cell (j := 4) (v := .int .i64 (pt i).num.prim) rfl
          have k25 := HBX2.out.cell (j := 5) (v := .int .i64 (pt i).num.sec) rfl
          have k26 := HBX2.out.cell (j := 6) (v := .int .i64 (pt i).num.minInt) rfl
          have k27 := HBX2.out.cell (j := 7) (v := .int .i64 (pt i).num.minFrac) rfl
          have k28 := HBX2.out.cell (j := 8) (v := .int .i64 (pt i).num.maxFrac) rfl
          have k30 := HBX3.out.cell (j := 0) (v := .slice A3 (pt j).pre.length c3) rfl
          have k31 := HBX3.out.cell (j := 1) (v := .slice B3 (pt j).suf.length d3) rfl
          have k32 := HBX3.out.cell (j := 2) (v := .slice C3 (pt j).npre.length a3) rfl
          have k33 := HBX3.out.cell (j := 3) (v := .slice D3 (pt j).nsuf.length b3) rfl
          have k34 := HBX3.out.cell (j := 4) (v := .int .i64 (pt j).num.prim) rfl
          have k35 := HBX3.out.cell (j := 5) (v := .int .i64 (pt j).num.sec) rfl
          have k36 := HBX3.out.cell (j := 6) (v := .int .i64 (pt j).num.minInt) rfl
          have k37 := HBX3.out.cell (j := 7) (v := .int .i64 (pt j).num.minFrac) rfl
          have k38 := HBX3.out.cell (j := 8) (v := .int .i64 (pt j).num.maxFrac) rfl
          obtain ⟨bb, hbb⟩ : ∃ bb : Bool, bb = decide (pt i = pt j) := ⟨_, rfl⟩
          have HS1 : Hid (∀ W, Ext w13 W → Calls Tryz.prog 14 #[.agg #[.slice A0 (pt i).pre.length c0, .slice B0 (pt i).suf.length d0, .slice C0 (pt i).npre.length a0, .slice D0 (pt i).nsuf.length b0, .int .i64 (pt i).num.prim, .int .i64 (pt i).num.sec, .int .i64 (pt i).num.minInt, .int .i64 (pt i).num.minFrac, .int .i64 (pt i).num.maxFrac], .agg #[.slice A1 (pt j).pre.length c1, .slice B1 (pt j).suf.length d1, .slice C1 (pt j).npre.length a1, .slice D1 (pt j).nsuf.length b1, .int .i64 (pt j).num.prim, .int .i64 (pt j).num.sec, .int .i64 (pt j).num.minInt, .int .i64 (pt j).num.minFrac, .int .i64 (pt j).num.maxFrac]] W fun e w' => e = .returned (.bool bb) ∧ Ext W w') := Lib.hid (fun W hW => by rw [hbb]; exact same_ A0 B0 C0 D0 A1 B1 C1 D1 c0 d0 a0 b0 c1 d1 a1 b1 (pt i) (pt j) W (HPP0.out.ext hW) (HPP1.out.ext hW) (HB.out i) (HB.out j))
          have HS2 : Hid (∀ W, Ext w13 W → Calls Tryz.prog 15 #[.agg #[.slice A2 (pt i).pre.length c2, .slice B2 (pt i).suf.length d2, .slice C2 (pt i).npre.length a2, .slice D2 (pt i).nsuf.length b2, .int .i64 (pt i).num.prim, .int .i64 (pt i).num.sec, .int .i64 (pt i).num.minInt, .int .i64 (pt i).num.minFrac, .int .i64 (pt i).num.maxFrac], .agg #[.slice A3 (pt j).pre.length c3, .slice B3 (pt j).suf.length d3, .slice C3 (pt j).npre.length a3, .slice D3 (pt j).nsuf.length b3, .int .i64 (pt j).num.prim, .int .i64 (pt j).num.sec, .int .i64 (pt j).num.minInt, .int .i64 (pt j).num.minFrac, .int .i64 (pt j).num.maxFrac]] W fun e w' => e = .returned (.bool bb) ∧ Ext W w') := Lib.hid (fun W hW => by rw [hbb]; exact same_ref A2 B2 C2 D2 A3 B3 C3 D3 c2 d2 a2 b2 c3 d3 a3 b3 (pt i) (pt j) W (HPP2.out.ext hW) (HPP3.out.ext hW) (HB.out i) (HB.out j))
          clear hbb HBX0 HBX1 HBX2 HBX3 HPP0 HPP1 HPP2 HPP3 HT HP HQ HB
          generalize (pt i).pre.length = ni0 at *
          generalize (pt i).suf.length = ni1 at *
          generalize (pt i).npre.length = ni2 at *
          generalize (pt i).nsuf.length = ni3 at *
          generalize (pt i).num.prim = xi0 at *
          generalize (pt i).num.sec = xi1 at *
          generalize (pt i).num.minInt = xi2 at *
          generalize (pt i).num.minFrac = xi3 at *
          generalize (pt i).num.maxFrac = xi4 at *
          generalize (pt j).pre.length = nj0 at *
          generalize (pt j).suf.length = nj1 at *
          generalize (pt j).npre.length = nj2 at *
          generalize (pt j).nsuf.length = nj3 at *
          generalize (pt j).num.prim = xj0 at *
          generalize (pt j).num.sec = xj1 at *
          generalize (pt j).num.minInt = xj2 at *
          generalize (pt j).num.minFrac = xj3 at *
          generalize (pt j).num.maxFrac = xj4 at *
          go_region_held3 (fun W => Ext w13 W ∧ W.cell? ⟨wp0.heap.size, 0, none⟩ = some (.slice A0 ni0 c0) ∧ W.cell? ⟨wp0.heap.size, 1, none⟩ = some (.slice B0 ni1 d0) ∧ W.cell? ⟨wp0.heap.size, 2, none⟩ = some (.slice C0 ni2 a0) ∧ W.cell? ⟨wp0.heap.size, 3, none⟩ = some (.slice D0 ni3 b0) ∧ W.cell? ⟨wp0.heap.size, 4, none⟩ = some (.int .i64 xi0) ∧ W.cell? ⟨wp0.heap.size, 5, none⟩ = some (.int .i64 xi1) ∧ W.cell? ⟨wp0.heap.size, 6, none⟩ = some (.int .i64 xi2) ∧ W.cell? ⟨wp0.heap.size, 7, none⟩ = some (.int .i64 xi3) ∧ W.cell? ⟨wp0.heap.size, 8, none⟩ = some (.int .i64 xi4) ∧ W.cell? ⟨wp1.heap.size, 0, none⟩ = some (.slice A1 nj0 c1) ∧ W.cell? ⟨wp1.heap.size, 1, none⟩ = some (.slice B1 nj1 d1) ∧ W.cell? ⟨wp1.heap.size, 2, none⟩ = some (.slice C1 nj2 a1) ∧ W.cell? ⟨wp1.heap.size, 3, none⟩ = some (.slice D1 nj3 b1) ∧ W.cell? ⟨wp1.heap.size, 4, none⟩ = some (.int .i64 xj0) ∧ W.cell? ⟨wp1.heap.size, 5, none⟩ = some (.int .i64 xj1) ∧ W.cell? ⟨wp1.heap.size, 6, none⟩ = some (.int .i64 xj2) ∧ W.cell? ⟨wp1.heap.size, 7, none⟩ = some (.int .i64 xj3) ∧ W.cell? ⟨wp1.heap.size, 8, none⟩ = some (.int .i64 xj4) ∧ W.cell? ⟨wp2.heap.size, 0, none⟩ = some (.slice A2 ni0 c2) ∧ W.cell? ⟨wp2.heap.size, 1, none⟩ = some (.slice B2 ni1 d2) ∧ W.cell? ⟨wp2.heap.size, 2, none⟩ = some (.slice C2 ni2 a2) ∧ W.cell? ⟨wp2.heap.size, 3, none⟩ = some (.slice D2 ni3 b2) ∧ W.cell? ⟨wp2.heap.size, 4, none⟩ = some (.int .i64 xi0) ∧ W.cell? ⟨wp2.heap.size, 5, none⟩ = some (.int .i64 xi1) ∧ W.cell? ⟨wp2.heap.size, 6, none⟩ = some (.int .i64 xi2) ∧ W.cell? ⟨wp2.heap.size, 7, none⟩ = some (.int .i64 xi3) ∧ W.cell? ⟨wp2.heap.size, 8, none⟩ = some (.int .i64 xi4) ∧ W.cell? ⟨wp3.heap.size, 0, none⟩ = some (.slice A3 nj0 c3) ∧ W.cell? ⟨wp3.heap.size, 1, none⟩ = some (.slice B3 nj1 d3) ∧ W.cell? ⟨wp3.heap.size, 2, none⟩ = some (.slice C3 nj2 a3) ∧ W.cell? ⟨wp3.heap.size, 3, none⟩ = some (.slice D3 nj3 b3) ∧ W.cell? ⟨wp3.heap.size, 4, none⟩ = some (.int .i64 xj0) ∧ W.cell? ⟨wp3.heap.size, 5, none⟩ = some (.int .i64 xj1) ∧ W.cell? ⟨wp3.heap.size, 6, none⟩ = some (.int .i64 xj2) ∧ W.cell? ⟨wp3.heap.size, 7, none⟩ = some (.int .i64 xj3) ∧ W.cell? ⟨wp3.heap.size, 8, none⟩ = some (.int .i64 xj4))
            (first
              | exact ⟨Ext.drew_ (Ext.refl _), k00, k01, k02, k03, k04, k05, k06, k07, k08, k10, k11, k12, k13, k14, k15, k16, k17, k18, k20, k21, k22, k23, k24, k25, k26, k27, k28, k30, k31, k32, k33, k34, k35, k36, k37, k38⟩
              | exact ⟨Ext.refl _, k00, k01, k02, k03, k04, k05, k06, k07, k08, k10, k11, k12, k13, k14, k15, k16, k17, k18, k20, k21, k22, k23, k24, k25, k26, k27, k28, k30, k31, k32, k33, k34, k35, k36, k37, k38⟩
              | (refine (fun h => ⟨h, Ext.cell_ h k00, Ext.cell_ h k01, Ext.cell_ h k02, Ext.cell_ h k03, Ext.cell_ h k04, Ext.cell_ h k05, Ext.cell_ h k06, Ext.cell_ h k07, Ext.cell_ h k08, Ext.cell_ h k10, Ext.cell_ h k11, Ext.cell_ h k12, Ext.cell_ h k13, Ext.cell_ h k14, Ext.cell_ h k15, Ext.cell_ h k16, Ext.cell_ h k17, Ext.cell_ h k18, Ext.cell_ h k20, Ext.cell_ h k21, Ext.cell_ h k22, Ext.cell_ h k23, Ext.cell_ h k24, Ext.cell_ h k25, Ext.cell_ h k26, Ext.cell_ h k27, Ext.cell_ h k28, Ext.cell_ h k30, Ext.cell_ h k31, Ext.cell_ h k32, Ext.cell_ h k33, Ext.cell_ h k34, Ext.cell_ h k35, Ext.cell_ h k36, Ext.cell_ h k37, Ext.cell_ h k38⟩) ?_; first | assumption | exact Ext.drew_ (by assumption)))
            (first
              | (go_at_call 14; with_reducible refine (HS1.out _ ?_).mono ?_; (first | assumption | exact Ext.drew_ (Ext.refl _)); rintro e w4 ⟨rfl, hx4⟩; (first | (have hE4 := (Ext.drew_ (Ext.refl w13)).trans hx4) | (rename Ext w13 _ => hEo; have hE4 := hEo.trans hx4)))
              | (go_at_call 15; with_reducible refine (HS2.out _ ?_).mono ?_; (first | assumption | exact Ext.drew_ (Ext.refl _)); rintro e w4 ⟨rfl, hx4⟩; (first | (have hE4 := (Ext.drew_ (Ext.refl w13)).trans hx4) | (rename Ext w13 _ => hEo; have hE4 := hEo.trans hx4))))
          all_goals go_wp2_with fail
          all_goals exact ⟨⟨j + 1, by omega, by go_num, HX4.out.trans (by assumption)⟩, by simp [intOf]; omega⟩
        · have e : j = 3 := by omega
          subst e
          go_wp2_with fail
          exact ⟨⟨i + 1, by omega, by go_num, hx0⟩, by simp [intOf]; omega⟩
    · have e : i = 3 := by omega
      subst e
      have hxw := HX9.out.trans hxr
      have HXW := Lib.hid hxw
      have h0r : 2 < wr.heap.size := by have := hxw.size; omega
      have HMr : ∃ m, wr.cell? ⟨2, 0, none⟩ = some (.int .i64 m) := by
        obtain ⟨m, hm⟩ := HM
        exact ⟨m, Ext.cell_ hxw hm⟩
      clear hxw
      go_wp2_with fail
      refine (lives_ wr h0r HMr).mono ?_; rintro e w5 ⟨rfl, hx5⟩
      go_wp2
      go_ret
      exact ⟨rfl, HXW.out.trans hx5⟩
end Go.Proofs.YtdkjkbbibdppoaaGreatDoor.Pat
