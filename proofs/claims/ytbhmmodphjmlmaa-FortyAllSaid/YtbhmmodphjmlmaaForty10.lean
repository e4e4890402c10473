/- Walks: the laws of the forty: FortyAll. -/
import Derived.Test.YtbhmmodphjmlmaaForty9
namespace Go.Proofs.Ytbhmmodphjmlmaa.Forty
open Go.RowKit Go.Shelf Small Strs
set_option linter.unusedVariables false
set_option linter.unusedSimpArgs false
attribute [local go_sem] Oper.semAt_some

theorem nameAt_far {k : Nat} (h : 40 ≤ k) : nameAt k = ⟨#[]⟩ := by
  unfold nameAt fldAt recAt
  have hl : recs.length = 40 := rfl
  have hz : recs.getD k [] = [] := by rw [List.getD_eq_getElem?_getD, List.getElem?_eq_none (by omega)]; rfl
  rw [hz]; rfl
theorem nameAt_ne {x k : Nat} (hk : k < 40) (h : x ≠ k) : nameAt x ≠ nameAt k := by
  intro e
  by_cases hx : x < 40
  · exact h (congrArg Fin.val (names_distinct ⟨x, hx⟩ ⟨k, hk⟩ e))
  · have := name_ne k hk
    rw [← e, nameAt_far (by omega)] at this
    cases this

set_option maxRecDepth 100000 in
set_option maxHeartbeats 4000000 in
theorem all_in (n : Int) (w : World) (n1 : -9223372036854775808 ≤ n) (n2 : n ≤ 9223372036854775807) : CallsIn Fence.wide 3 Try.prog 10 #[.int .i64 n] w fun e W' => e = .returned (.bool true) ∧ Ext w W' := by
  have hb := aroundF_bd n 40 (by omega)
  obtain ⟨q, hq⟩ := Int.eq_ofNat_of_zero_le hb.1
  have HQ := Lib.hid hq
  have hq40 : q < 40 := by omega
  refine callsIn_of_wp_marks Try.func10 rfl trivial ?_ rfl
  simp only [Try.ntmps10, List.size_toArray, List.length_cons, List.length_nil, Nat.reduceAdd, Nat.reduceSub, Array.replicate_succ, Array.replicate_zero, List.push_toArray, List.append_toArray, List.nil_append, List.cons_append]
  clear hb hq
  gi_wp2
  refine ⟨trivial, ?_⟩
  gi_at_call 13
  refine (callsIn_wide.2 (around _ _ _ n1 n2 (by omega) (by omega))).mono ?_; rintro e w' ⟨rfl, rfl⟩
  rw [HQ.out]
  gi_wp2
  refine ⟨trivial, ?_⟩
  gi_at_call 40
  refine (callsIn_wide.2 (forty_all _)).mono ?_
  rintro e w' ⟨rfl, rfl⟩
  have hnf : ∀ w, (binOp .eql 59 (.func (.func 61) #[] #[]) .nilFunc).run Try.prog w = .ok (.bool false) w := fun _ => by kernel_rfl
  gi_wp2
  clear hnf
  have b2 : Box (((w.alloc (.cells #[.bool false] 4)).alloc (.cells #[.int .i64 (1 + (q : Int))] 3)).alloc (.cells #[.int .i64 0] 3)) w.heap.size 4 [.bool false] := ((Box.new w 4 [.bool false]).alloc _).alloc _
  have b3 : Box (((w.alloc (.cells #[.bool false] 4)).alloc (.cells #[.int .i64 (1 + (q : Int))] 3)).alloc (.cells #[.int .i64 0] 3)) (w.heap.size + 1) 3 [.int .i64 (1 + (q : Int))] := by
    have := (Box.new (w.alloc (.cells #[.bool false] 4)) 3 [.int .i64 (1 + (q : Int))]).alloc (.cells #[.int .i64 0] 3)
    rwa [World.size_alloc] at this
  have b5 : Box (((w.alloc (.cells #[.bool false] 4)).alloc (.cells #[.int .i64 (1 + (q : Int))] 3)).alloc (.cells #[.int .i64 0] 3)) (w.heap.size + 1 + 1) 3 [.int .i64 0] := by
    have := (Box.new ((w.alloc (.cells #[.bool false] 4)).alloc (.cells #[.int .i64 (1 + (q : Int))] 3)) 3 [.int .i64 0])
    rwa [World.size_alloc, World.size_alloc] at this
  have hB0 : Below w.heap.size w (((w.alloc (.cells #[.bool false] 4)).alloc (.cells #[.int .i64 (1 + (q : Int))] 3)).alloc (.cells #[.int .i64 0] 3)) := Ext.alloc_ (Ext.alloc_ (Ext.alloc_ (Ext.refl w) _) _) _
  have hsz : (((w.alloc (.cells #[.bool false] 4)).alloc (.cells #[.int .i64 (1 + (q : Int))] 3)).alloc (.cells #[.int .i64 0] 3)).heap.size = w.heap.size + 3 := by simp
  generalize ((w.alloc (.cells #[.bool false] 4)).alloc (.cells #[.int .i64 (1 + (q : Int))] 3)).alloc (.cells #[.int .i64 0] 3) = W0 at *
  have HSZ := Lib.hid hsz
  clear hsz
  refine wpIn_rangeFunc_ownH rfl (by omega) (gf := 61) (lb := #[]) rfl trivial (enters_of Try.func61 (by kernel_rfl) rfl)
    (all_stops 2 (by omega) W0) KeepsR.trans KeepsR.putObj (Below.refl _ _) (fun _ => rfl)
    (fun pre W => (Box W w.heap.size 4 [.bool false] ∧ Box W (w.heap.size + 1) 3 [.int .i64 (1 + (q : Int))] ∧ Box W (w.heap.size + 1 + 1) 3 [.int .i64 (pre.length : Int)]) ∧ (pre = List.range pre.length ∧ pre.length < 1 + q) ∧ Below w.heap.size w W)
    (fun c pre W => ((c = .ret ∧ ¬ (pre = List.range pre.length)) ∨ (c = .exit 0 ∧ Box W w.heap.size 4 [.bool false] ∧ Box W (w.heap.size + 1) 3 [.int .i64 (1 + (q : Int))] ∧ Box W (w.heap.size + 1 + 1) 3 [.int .i64 (1 + (q : Int))])) ∧ Below w.heap.size w W)
    (OwnFrom.and (OwnFrom.and (box_own _ _ _ _) (OwnFrom.and (box_own _ _ _ _) (fun pre W W' row h hg hr => box_own (β := Unit) _ _ _ _ () W W' row h hg hr))) (OwnFrom.and (ownFrom_pure _ _) (ownFrom_below (Nat.le_refl _) (by rw [HSZ.out]; omega))))
    (fun c => OwnFrom.and (fun pre W W' row h hg hr => by
      rcases h with h | ⟨h0, h1, h2, h3⟩
      · exact .inl h
      · exact .inr ⟨h0, box_own (β := Unit) _ _ _ _ () W W' row h1 hg hr, box_own (β := Unit) _ _ _ _ () W W' row h2 hg hr, box_own (β := Unit) _ _ _ _ () W W' row h3 hg hr⟩) (ownFrom_below (Nat.le_refl _) (by rw [HSZ.out]; omega)))
    ⟨⟨b2, b3, b5⟩, ⟨rfl, by simp; omega⟩, hB0⟩
    (fun x a' W => ∃ Bx, w.heap.size + 3 ≤ Bx ∧ Box W Bx 61 (recL x) ∧ a' = { tmps := #[.int .i64 n, undef, .pointer (some ⟨w.heap.size, 0, none⟩), .pointer (some ⟨w.heap.size + 1, 0, none⟩), .func (.func 61) #[] #[], .pointer (some ⟨w.heap.size + 1 + 1, 0, none⟩), .string (nameAt x), .pointer (some ⟨Bx, 0, none⟩), undef, .int .i64 n, .int .i64 q, .int .i64 (1 + q), .func (.func 61) #[] #[], .func (.func 61) #[] #[], .bool false, .func (.func 61) #[] #[], .string (nameAt x), recV x, undef, undef, undef, undef, undef, undef, undef, undef, undef, undef, undef, undef, undef, undef, undef, undef, undef, undef, undef, undef, undef, undef, undef, undef, undef, undef], defers := [] })
    (fun x a' => fun u W W' row h hg hr => by obtain ⟨Bx, h1, h2, h3⟩ := h; exact ⟨Bx, h1, box_own (β := Unit) _ _ _ _ () W W' row h2 hg hr, h3⟩)
    ?assign ?body ?done ?stop
  case assign =>
    rintro l pre x W K ⟨⟨c2, c3, c5⟩, hn, hB⟩ hK
    have hsw := hB.size
    have hlt := c5.lt
    have hbx := Box.new W 61 (recL x)
    have HK := Lib.hid (hK _ (W.alloc (.cells (recL x).toArray 61)) ((KeepsOthers.alloc _ _).from _) (KeepsR.alloc _ _) ⟨⟨c2.alloc _, c3.alloc _, c5.alloc _⟩, hn, Ext.alloc_ hB _⟩ ⟨W.heap.size, by omega, hbx, rfl⟩)
    clear hK hn
    unfold encs
    gi_wp2_with (refine wpListIn_store_new rfl 61 (.tmp 7) (.tmp 17) rfl (recL x).toArray 61 _ rfl rfl infoL rfl (recL_one x) ?_)
    exact HK.out
  case body =>
    rintro l pre x a' W hl hlp ⟨⟨c2, c3, c5⟩, ⟨hpr, hpl⟩, hB⟩ ⟨Bx, hBx, bX, rfl⟩ hlen
    have HP := Lib.hid hpr
    have hc5 := c5.cell (j := 0) (v := .int .i64 (pre.length : Int)) rfl
    have HC2 := Lib.hid c2
    have HC3 := Lib.hid c3
    have HC5 := Lib.hid c5
    have HX := Lib.hid bX
    have HB := Lib.hid hB
    have ha : (aroundF (pre.length : Int) 40).toNat = pre.length := by
      unfold aroundF; rw [if_neg (by omega), Int.emod_eq_of_lt (by omega) (by omega)]; simp
    have HA := Lib.hid ha
    clear hpr c2 c3 c5 bX hB ha
    generalize hi : pre.length = i at *
    have HI := Lib.hid hi
    clear hi
    gi_wp2
    refine ⟨trivial, ?_⟩
    gi_at_call 36
    refine (CallsIn.inRound l (callsIn_wide.2 (ref_one (i : Int) _ (by omega) (by omega)))).mono ?_
    rintro e W5 ⟨rfl, hx5⟩
    rw [HA.out, recV_L]
    clear hc5
    have HD2 := Lib.hid ((HC2.out.ext hx5).alloc (.cells (recL i).toArray 53))
    have HD3 := Lib.hid ((HC3.out.ext hx5).alloc (.cells (recL i).toArray 53))
    have HD5 := Lib.hid ((HC5.out.ext hx5).alloc (.cells (recL i).toArray 53))
    have HDX := Lib.hid ((HX.out.ext hx5).alloc (.cells (recL i).toArray 53))
    have HDN := Lib.hid (Box.new W5 53 (recL i))
    have HE6 : Hid (Ext W (W5.alloc (.cells (recL i).toArray 53))) := Lib.hid (Ext.alloc_ hx5 _)
    have HB6 : Hid (Below w.heap.size w (W5.alloc (.cells (recL i).toArray 53))) := Lib.hid (Below.trans HB.out (HE6.out.mono HB.out.size))
    clear hx5 HC2 HC3 HC5 HX HB
    generalize recV x = rx at *
    have hi40 : (i : Int) < 40 := by omega
    by_cases hxi : x = i
    · subst hxi
      have HP2 : Hid (pre ++ [x] = List.range (x + 1)) := Lib.hid (by rw [List.range_succ, ← HP.out])
      have HL2 : Hid ((pre ++ [x]).length = x + 1) := Lib.hid (by simp [HI.out])
      clear hlen
      by_cases hlast : x = q
      · have hbe : ((x : Int) + 1 == 1 + (q : Int)) = true := by simp; omega
        have HLS := Lib.hid hlast
        clear hlast
        gi_wp2_with (refine wpListIn_store_new rfl 53 (.tmp 8) (.tmp 19) rfl (recL x).toArray 53 _ rfl rfl infoR rfl (recL_one x) ?_; generalize W5.alloc (.cells (recL x).toArray 53) = W6 at *; generalize W5.heap.size = g6 at *; have hd5 := HD5.out.cell (j := 0) (v := .int .i64 (x : Int)) rfl; have hf5 := HD5.out.frozen 0; have hd3 := HD3.out.cell (j := 0) (v := .int .i64 (1 + (q : Int))) rfl; have hd2 := HD2.out.cell (j := 0) (v := .bool false) rfl; have hf2 := HD2.out.frozen 0; obtain ⟨a0, a1, a2, a3, a4, a5, a6, a7⟩ := box8 HDX.out; obtain ⟨e0, e1, e2, e3, e4, e5, e6, e7⟩ := box8 HDN.out)
        exact ⟨((others_ext HE6.out).trans (KeepsOthers.setCell _ _ _)).from _, .inr ⟨rfl, HD2.out.setCell1 _ _ (by omega) _, HD3.out.setCell1 _ _ (by omega) _, by have := HD5.out.setCell 0 (.int .i64 ((x : Int) + 1)); rw [show ((x : Int) + 1) = 1 + (q : Int) by rw [HLS.out]; omega] at this ⊢; exact this⟩, Ext.setCell_ HB6.out (by omega) _ _⟩
      · have hbe : ((x : Int) + 1 == 1 + (q : Int)) = false := by simp; omega
        have HLS : Hid (x + 1 < 1 + q) := Lib.hid (by omega)
        clear hlast
        gi_wp2_with (refine wpListIn_store_new rfl 53 (.tmp 8) (.tmp 19) rfl (recL x).toArray 53 _ rfl rfl infoR rfl (recL_one x) ?_; generalize W5.alloc (.cells (recL x).toArray 53) = W6 at *; generalize W5.heap.size = g6 at *; have hd5 := HD5.out.cell (j := 0) (v := .int .i64 (x : Int)) rfl; have hf5 := HD5.out.frozen 0; have hd3 := HD3.out.cell (j := 0) (v := .int .i64 (1 + (q : Int))) rfl; have hd2 := HD2.out.cell (j := 0) (v := .bool false) rfl; have hf2 := HD2.out.frozen 0; obtain ⟨a0, a1, a2, a3, a4, a5, a6, a7⟩ := box8 HDX.out; obtain ⟨e0, e1, e2, e3, e4, e5, e6, e7⟩ := box8 HDN.out)
        refine ⟨((others_ext HE6.out).trans (KeepsOthers.setCell _ _ _)).from _, (keepsR_ext HE6.out).trans (KeepsR.setCell (show W6.heap[w.heap.size + 1 + 1]? = some (Obj.cells #[.int .i64 (x : Int)] 3 (0, 0)) from HD5.out) (by decide) 0 _), ⟨HD2.out.setCell1 _ _ (by omega) _, HD3.out.setCell1 _ _ (by omega) _, ?_⟩, ⟨?_, ?_⟩, Ext.setCell_ HB6.out (by omega) _ _⟩
        · rw [HL2.out]; exact HD5.out.setCell 0 _
        · rw [HL2.out]; exact HP2.out
        · rw [HL2.out]; exact HLS.out
    · have hnb := beq_str (nameAt x) (nameAt i)
      rw [decide_eq_false (nameAt_ne (by omega) hxi)] at hnb
      have HXI := Lib.hid hxi
      clear hxi
      gi_wp2_with (refine wpListIn_store_new rfl 53 (.tmp 8) (.tmp 19) rfl (recL i).toArray 53 _ rfl rfl infoR rfl (recL_one i) ?_; generalize W5.alloc (.cells (recL i).toArray 53) = W6 at *; generalize W5.heap.size = g6 at *; have hd5 := HD5.out.cell (j := 0) (v := .int .i64 (i : Int)) rfl; have hf5 := HD5.out.frozen 0; have hd3 := HD3.out.cell (j := 0) (v := .int .i64 (1 + (q : Int))) rfl; have hd2 := HD2.out.cell (j := 0) (v := .bool false) rfl; have hf2 := HD2.out.frozen 0; obtain ⟨a0, a1, a2, a3, a4, a5, a6, a7⟩ := box8 HDX.out; obtain ⟨e0, e1, e2, e3, e4, e5, e6, e7⟩ := box8 HDN.out)
      refine ⟨((others_ext HE6.out).trans (KeepsOthers.setCell _ _ _)).from _, .inl ⟨rfl, fun e => ?_⟩, Ext.setCell_ HB6.out (Nat.le_refl _) _ _⟩
      rw [List.length_append, HI.out] at e
      simp only [List.length_cons, List.length_nil, Nat.zero_add, List.range_succ] at e
      exact HXI.out (by simpa using (List.append_inj' e rfl).2)
  case done =>
    rintro D ys W hD rfl ⟨-, ⟨-, hl⟩, -⟩ hK
    simp at hl
    omega
  case stop =>
    rintro D c pre W hD hSp ⟨h, hB⟩ hK
    rcases h with ⟨rfl, h⟩ | ⟨rfl, c2, c3, c5⟩
    · obtain ⟨k, hk, rfl⟩ := hSp
      simp at h
    · have hc2 := c2.cell (j := 0) (v := .bool false) rfl
      have hc3 := c3.cell (j := 0) (v := .int .i64 (1 + (q : Int))) rfl
      have hc5 := c5.cell (j := 0) (v := .int .i64 (1 + (q : Int))) rfl
      have hD2 : w.heap.size + 3 ≤ D := by rw [← HSZ.out]; exact hD
      have HD := Lib.hid hD2
      have HC2 := Lib.hid c2
      have HB := Lib.hid hB
      have HK := Lib.hid hK
      clear c2 c3 c5 hB hK hD hD2 hSp
      gi_wp2
      refine ⟨trivial, ?_⟩
      gi_at_call 39
      refine (callsIn_wide.2 (law12_lives _)).mono ?_
      rintro e W5 ⟨rfl, hx5⟩
      have HC5 := Lib.hid (HC2.out.ext hx5)
      have HK5 := Lib.hid ((others_ext hx5).same D _ HK.out rfl)
      have HB5 : Hid (Below w.heap.size w W5) := Lib.hid (Below.trans HB.out (hx5.mono HB.out.size))
      have hc := HC5.out.cell (j := 0) (v := .bool false) rfl
      have hf := HC5.out.frozen 0
      clear hx5 hc2 hc3 hc5 HC2 HK HB
      gi_wp2
      have hk2 := (KeepsOthers.setCell W5 ⟨w.heap.size, 0, none⟩ (.bool true)).same D _ HK5.out rfl
      refine ⟨by simp, .inl ⟨_, _, rfl, run_takeDeferred hk2, ?_⟩⟩
      have hd1 := HD.out
      have hres := (Box.putObj (HC5.out.setCell 0 (.bool true)) D (.deferred none) (by omega)).cell (j := 0) rfl
      refine ⟨.bool true, by simp [results, Try.results10, go_sem, asAddr, hres], rfl, ?_⟩
      exact Below.trans (Ext.setCell_ HB5.out (Nat.le_refl _) 0 (.bool true)) (belowK_b (w := w) (Nat.le_refl _) _ D _ _ (by omega) hk2 rfl rfl)
theorem law12_FortyAll (n : Int) (w : World) (n1 : -9223372036854775808 ≤ n) (n2 : n ≤ 9223372036854775807) : Calls Try.prog 10 #[.int .i64 n] w fun e W' => e = .returned (.bool true) ∧ Ext w W' :=
  callsIn_wide.1 (all_in n w n1 n2)
end Go.Proofs.Ytbhmmodphjmlmaa.Forty
