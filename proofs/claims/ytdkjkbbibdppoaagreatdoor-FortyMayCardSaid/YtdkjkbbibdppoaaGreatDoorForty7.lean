/- Walk: forty.Match. -/
import Derived.Test.YtdkjkbbibdppoaaGreatDoorForty6
namespace Go.Proofs.YtdkjkbbibdppoaaGreatDoor.Forty
open Go.RowKit Go.Shelf Small Strs
set_option linter.unusedVariables false
set_option linter.unusedSimpArgs false
attribute [local go_sem] Oper.semAt_some

theorem results_two {fn : Func} (h : fn.results = #[.cell 2 9, .cell 3 29]) (tmps : Array Value) (w : World) (g k : Nat) (u v : Value)
    (h2 : tmps.getD 2 undef = .pointer (some ⟨g, 0, none⟩)) (h3 : tmps.getD 3 undef = .pointer (some ⟨k, 0, none⟩)) (hb : Box w g 9 [u]) (hk : Box w k 29 [v]) :
    (results fn tmps).run Tryz.prog w = .ok (.tuple #[u, v]) w := by
  have h2' : tmps[2]?.getD undef = .pointer (some ⟨g, 0, none⟩) := by simpa using h2
  have h3' : tmps[3]?.getD undef = .pointer (some ⟨k, 0, none⟩) := by simpa using h3
  have hb' := hb.cell (j := 0) rfl
  have hc := hk.cell (j := 0) rfl
  have e1 : (loadVar 9 ⟨g, 0, none⟩).run Tryz.prog w = .ok u w := by simp [go_sem, hb']
  have e2 : (loadVar 29 ⟨k, 0, none⟩).run Tryz.prog w = .ok v w := by simp [go_sem, hc]
  simp [results, h, h2', h3', asAddr, e1, e2]
theorem langZ_hit (s : ByteArray) (k : Nat) (hk : k < 40) (h : ∀ j ∈ List.range k, sameL s j = false) (he : sameL s k = true) : langZ s = k := by
  have e : (List.range 40).take k = List.range k := by rw [List.take_range]; congr 1; omega
  refine idxF_at _ _ k (by simpa using hk) ?_ (by simp [he])
  rw [e, List.any_eq_false]
  intro x hx
  simp [h x hx]
theorem langZ_miss (s : ByteArray) (h : ∀ j ∈ List.range 40, sameL s j = false) : langZ s = -1 := by
  refine idxF_none _ _ ?_
  rw [List.any_eq_false]
  intro x hx
  simp [h x hx]
theorem others_ext {W W' : World} (h : Ext W W') : KeepsOthers W W' := ⟨h.size, fun i o hi _ => (h.block i (Array.getElem?_eq_some_iff.1 hi).1).trans hi⟩
theorem keepsR_ext {W W' : World} (h : Ext W W') : KeepsR W W' := fun i cs fz hi => (h.block i (Array.getElem?_eq_some_iff.1 hi).1).trans hi
theorem recR_len (s : ByteArray) : (recR s).length = 8 := by unfold recR; split <;> rfl
theorem recR_one (s : ByteArray) : (recR s).toArray.all (·.oneCell') = true := by unfold recR; split; exact recL_one _; exact zero8_one
theorem recR_info (s : ByteArray) : (Tryz.prog.info? 52).map (·.size) = some (recR s).toArray.size := by rw [infoL]; simp [recR_len]

set_option maxRecDepth 100000 in
set_option maxHeartbeats 4000000 in
theorem match_in (s : ByteArray) (w : World) (hs : s.size ≤ maxLen) : CallsIn Fence.wide 3 Tryz.prog 90 #[.string s] w fun e W' => e = .returned (.tuple #[.string (matchB s), .int .i64 (matchE s)]) ∧ Ext w W' := by
  refine callsIn_of_wp_marks Tryz.func90 rfl trivial ?_ rfl
  simp only [Tryz.ntmps90, List.size_toArray, List.length_cons, List.length_nil, Nat.reduceAdd, Nat.reduceSub, Array.replicate_succ, Array.replicate_zero, List.push_toArray, List.append_toArray, List.nil_append, List.cons_append]
  gi_wp2
  have b0 : Box ((w.alloc (.cells #[.string ⟨#[]⟩] 9)).alloc (.cells #[.int .i64 0] 29)) w.heap.size 9 [.string ⟨#[]⟩] := (Box.new w 9 [.string ⟨#[]⟩]).alloc _
  have b1 : Box ((w.alloc (.cells #[.string ⟨#[]⟩] 9)).alloc (.cells #[.int .i64 0] 29)) (w.heap.size + 1) 29 [.int .i64 0] := by
    have := Box.new (w.alloc (.cells #[.string ⟨#[]⟩] 9)) 29 [.int .i64 0]
    rwa [World.size_alloc] at this
  have HB0 := Lib.hid b0
  have HB1 := Lib.hid b1
  have HX0 : Hid (Ext w ((w.alloc (.cells #[.string ⟨#[]⟩] 9)).alloc (.cells #[.int .i64 0] 29))) := Lib.hid (Ext.alloc_ (Ext.alloc_ (Ext.refl w) _) _)
  clear b0 b1
  refine ⟨trivial, ?_⟩
  gi_at_call 45
  refine (callsIn_wide.2 (forty_record _ _)).mono ?_
  rintro e W1 ⟨rfl, hx1⟩
  have HB0' := Lib.hid (HB0.out.ext hx1)
  have HB1' := Lib.hid (HB1.out.ext hx1)
  have HX1 : Hid (Ext w W1) := Lib.hid (Below.trans HX0.out (hx1.mono HX0.out.size))
  clear hx1 HB0 HB1 HX0
  have HRO := Lib.hid (recR_one s)
  have HRI := Lib.hid (recR_info s)
  have HRL : Hid ((zero8 : List Value).toArray.size = (recR s).toArray.size) := Lib.hid (by simp [recR_len]; rfl)
  have HB0 := Lib.hid (HB0'.out.alloc (.cells (recR s).toArray 52))
  have HB1 := Lib.hid (HB1'.out.alloc (.cells (recR s).toArray 52))
  have HX : Hid (Ext w (W1.alloc (.cells (recR s).toArray 52))) := Lib.hid (Ext.alloc_ HX1.out _)
  have HSZ : Hid (w.heap.size + 2 ≤ W1.heap.size) := Lib.hid (by have := HB1'.out.lt; omega)
  clear HB0' HB1'
  by_cases h0 : 0 ≤ findZ s
  · have HRE : Hid (recE s = 0) := Lib.hid (by rw [recE, if_pos h0])
    have HM : Hid (matchB s = s) := Lib.hid (by rw [matchB, if_pos h0])
    have HE : Hid (matchE s = 0) := Lib.hid (by rw [matchE, if_pos h0])
    clear h0
    rw [HRE.out]
    generalize recR s = rr at *
    have hc0 := HB0.out.cell (j := 0) (v := .string ⟨#[]⟩) rfl
    have hc1 := HB1.out.cell (j := 0) (v := .int .i64 0) rfl
    have hf0 := HB0.out.frozen 0
    have hf1 := HB1.out.frozen 0
    gi_wp2_with (refine wpListIn_store_new rfl 52 (.tmp 4) (.tmp 16) rfl rr.toArray 52 _ rfl rfl HRI.out HRL.out HRO.out ?_; generalize W1.alloc (.cells rr.toArray 52) = W2 at *)
    have hs2 := HSZ.out
    refine ⟨_, results_two rfl _ _ w.heap.size (w.heap.size + 1) (.string s) (.int .i64 0) rfl rfl ((HB0.out.setCell 0 _).setCell1 _ _ (by omega) _) ((HB1.out.setCell1 _ _ (by omega) _).setCell 0 _), ?_, ?_⟩
    · rw [HM.out, HE.out]
    · exact Ext.setCell_ (Ext.setCell_ HX.out (Nat.le_refl _) _ _) (by omega) _ _
  · have HRE : Hid (recE s = 7) := Lib.hid (by rw [recE, if_neg h0])
    have HM : Hid (matchB s = if 0 ≤ langZ s then nameAt (langZ s).toNat else ⟨#[]⟩) := Lib.hid (by rw [matchB, if_neg h0])
    have HE : Hid (matchE s = if 0 ≤ langZ s then 0 else 7) := Lib.hid (by rw [matchE, if_neg h0])
    clear h0
    rw [HRE.out]
    generalize recR s = rr at *
    gi_wp2_with (refine wpListIn_store_new rfl 52 (.tmp 4) (.tmp 16) rfl rr.toArray 52 _ rfl rfl HRI.out HRL.out HRO.out ?_; generalize hW2 : W1.alloc (.cells rr.toArray 52) = W2 at *; have HW2 : Hid (W2.heap.size = W1.heap.size + 1) := Lib.hid (by rw [← hW2]; simp); clear hW2)
    refine ⟨trivial, ?_⟩
    gi_at_call 141
    refine (callsIn_wide.2 (cut_one _ 45 _ hs)).mono ?_
    rintro e W3 ⟨rfl, hx3⟩
    have HC := Lib.hid (cut_lang s.data.toList)
    rw [HC.out]
    have HB0' := Lib.hid ((HB0.out.ext hx3).alloc (.cells #[.string ⟨(langL s.data.toList).toArray⟩] 9))
    have HB1' := Lib.hid ((HB1.out.ext hx3).alloc (.cells #[.string ⟨(langL s.data.toList).toArray⟩] 9))
    have HX' : Hid (Ext w (W3.alloc (.cells #[.string ⟨(langL s.data.toList).toArray⟩] 9))) := Lib.hid (Ext.alloc_ (Below.trans HX.out (hx3.mono HX.out.size)) _)
    have HSZ' : Hid (w.heap.size + 2 ≤ W3.heap.size) := Lib.hid (by have := hx3.size; have := HSZ.out; have := HW2.out; omega)
    have HBL := Lib.hid (Box.new W3 9 [.string ⟨(langL s.data.toList).toArray⟩])
    clear HB0 HB1 HX HSZ hx3 HW2 HRL HRI HRO
    gi_wp2
    refine ⟨trivial, ?_⟩
    gi_at_call 91
    refine (callsIn_wide.2 (forty_all _)).mono ?_
    rintro e w' ⟨rfl, rfl⟩
    gi_wp2
    change Code.wpIn _ _ _ _ _ _ (W3.alloc (.cells #[.string ⟨(langL s.data.toList).toArray⟩] 9))
    generalize hW4 : (W3.alloc (.cells #[.string ⟨(langL s.data.toList).toArray⟩] 9)) = W4 at *
    have HW4 : Hid (W4.heap.size = W3.heap.size + 1) := Lib.hid (by rw [← hW4]; simp)
    clear hW4
    generalize W3.heap.size = g at *
    refine wpIn_rangeFunc_ownG rfl (by omega) (gf := 142) (lb := #[]) rfl trivial (enters_of Tryz.func142 (by kernel_rfl) rfl)
      (all_stops 2 (by omega) W4) KeepsR.trans KeepsR.putObj (Below.refl _ _) (fun _ => rfl)
      (fun pre W => (Box W w.heap.size 9 [.string ⟨#[]⟩] ∧ Box W (w.heap.size + 1) 29 [.int .i64 0] ∧ Box W g 9 [.string ⟨(langL s.data.toList).toArray⟩]) ∧ (∀ j ∈ pre, sameL s j = false) ∧ Below w.heap.size w W)
      (fun c pre W => (c = .ret ∧ ∃ pre' x, pre = pre' ++ [x] ∧ sameL s x = true ∧ (∀ j ∈ pre', sameL s j = false) ∧ Box W w.heap.size 9 [.string (nameAt x)]) ∧ Box W (w.heap.size + 1) 29 [.int .i64 0] ∧ Below w.heap.size w W)
      (OwnFrom.and (OwnFrom.and (box_own _ _ _ _) (OwnFrom.and (box_own _ _ _ _) (box_own _ _ _ _))) (OwnFrom.and (ownFrom_pure _ _) (ownFrom_below (Nat.le_refl _) (by rw [HW4.out]; have := HSZ'.out; omega))))
      (fun c => OwnFrom.and (fun pre W W' row h hg hr => by obtain ⟨hc, pre', x, e, h1, h2, h3⟩ := h; exact ⟨hc, pre', x, e, h1, h2, box_own (β := Unit) _ _ _ _ () W W' row h3 hg hr⟩) (OwnFrom.and (box_own _ _ _ _) (ownFrom_below (Nat.le_refl _) (by rw [HW4.out]; have := HSZ'.out; omega))))
      ⟨⟨HB0'.out, HB1'.out, HBL.out⟩, by simp, HX'.out⟩ ?a1 ?assign ?body ?done ?stop
    case assign =>
      intro l x W K hK
      unfold encs
      gi_wp2
      exact hK
    case body =>
      rintro l pre x W ⟨⟨c0, c1, c2⟩, hn, hB⟩ hlen
      have hns := name_size x
      have HC0 := Lib.hid c0
      have HC1 := Lib.hid c1
      have HC2 := Lib.hid c2
      have HN := Lib.hid hn
      have HB := Lib.hid hB
      have HSQ : Hid ((langL (nameAt x).data.toList == langL s.data.toList) = sameL s x) := Lib.hid (sameL_beq s x)
      have HLN := Lib.hid (cut_lang (nameAt x).data.toList)
      clear c0 c1 c2 hn hB
      generalize recV x = rx at *
      gi_wp2
      refine ⟨trivial, ?_⟩
      gi_at_call 141
      refine (CallsIn.inRound l (callsIn_wide.2 (cut_one (nameAt x) 45 _ (by unfold maxLen; omega)))).mono ?_
      rintro e W5 ⟨rfl, hx5⟩
      rw [HLN.out]
      have HD0 := Lib.hid (HC0.out.ext hx5)
      have HD1 := Lib.hid (HC1.out.ext hx5)
      have HD2 := Lib.hid (HC2.out.ext hx5)
      have HX5 := Lib.hid hx5
      have HBB : Hid (Below w.heap.size w W5) := Lib.hid (Below.trans HB.out (hx5.mono HB.out.size))
      clear hx5 HC0 HC1 HC2
      have hc0 := HD0.out.cell (j := 0) (v := .string ⟨#[]⟩) rfl
      have hc1 := HD1.out.cell (j := 0) (v := .int .i64 0) rfl
      have hc2 := HD2.out.cell (j := 0) (v := .string ⟨(langL s.data.toList).toArray⟩) rfl
      have hf0 := HD0.out.frozen 0
      have hf1 := HD1.out.frozen 0
      by_cases e : sameL s x = true
      · have E := Lib.hid e
        have hq := HSQ.out.trans e
        clear e
        gi_wp2
        exact ⟨((others_ext HX5.out).trans ((KeepsOthers.setCell _ _ _).trans (KeepsOthers.setCell _ _ _))).from _, ⟨rfl, pre, x, rfl, E.out, HN.out, (HD0.out.setCell 0 _).setCell1 _ _ (by omega) _⟩, (HD1.out.setCell1 _ _ (by omega) _).setCell 0 _, Ext.setCell_ (Ext.setCell_ HBB.out (Nat.le_refl _) _ _) (by omega) _ _⟩
      · have e : sameL s x = false := by simpa using e
        have E := Lib.hid e
        have hq := HSQ.out.trans e
        clear e
        gi_wp2
        exact ⟨(others_ext HX5.out).from _, keepsR_ext HX5.out, ⟨HD0.out, HD1.out, HD2.out⟩, fun j hj => by rcases List.mem_append.1 hj with h | h; exact HN.out j h; simp at h; rw [h]; exact E.out, HBB.out⟩
    case done =>
      rintro D ys W hD rfl ⟨⟨c0, c1, c2⟩, hn, hB⟩ hK
      have HF := Lib.hid (langZ_miss s hn)
      have hD2 : w.heap.size + 3 ≤ D := by have := HSZ'.out; have := HW4.out; omega
      have HD := Lib.hid hD2
      have HC0 := Lib.hid c0
      have HC1 := Lib.hid c1
      have HB := Lib.hid hB
      have HK := Lib.hid hK
      have hc0 := c0.cell (j := 0) (v := .string ⟨#[]⟩) rfl
      have hc1 := c1.cell (j := 0) (v := .int .i64 0) rfl
      have hf0 := c0.frozen 0
      have hf1 := c1.frozen 0
      clear hn c0 c1 c2 hB hK hD2
      gi_wp2
      have hk2 := ((KeepsOthers.setCell W ⟨w.heap.size, 0, none⟩ (.string ⟨#[]⟩)).trans (KeepsOthers.setCell _ ⟨w.heap.size + 1, 0, none⟩ (.int .i64 7))).same D _ HK.out rfl
      refine ⟨by simp, .inl ⟨_, _, rfl, run_takeDeferred hk2, ?_⟩⟩
      have hd1 := HD.out
      refine ⟨_, results_two rfl _ _ w.heap.size (w.heap.size + 1) (.string ⟨#[]⟩) (.int .i64 7) rfl rfl (Box.putObj ((HC0.out.setCell 0 _).setCell1 _ _ (by omega) _) D _ (by omega)) (Box.putObj ((HC1.out.setCell1 _ _ (by omega) _).setCell 0 _) D _ (by omega)), ?_, ?_⟩
      · rw [HM.out, HE.out, HF.out]; rfl
      · exact Below.trans (Ext.setCell_ (Ext.setCell_ HB.out (Nat.le_refl _) _ _) (show w.heap.size ≤ w.heap.size + 1 by omega) 0 (.int .i64 7)) (belowK_b (w := w) (Nat.le_refl _) _ D _ _ (by omega) hk2 rfl rfl)
    case stop =>
      rintro D c pre W hD hSp ⟨⟨rfl, pre', x, rfl, hx, hn, c0⟩, c1, hB⟩ hK
      obtain ⟨k, hk, hpre⟩ := hSp
      have hkx : k = pre'.length + 1 := by have := congrArg List.length hpre; simpa using this.symm
      subst hkx
      rw [List.range_succ] at hpre
      obtain ⟨hp, hxk⟩ := List.append_inj' hpre rfl
      have hxk : x = pre'.length := by simpa using hxk
      have HF := Lib.hid (langZ_hit s x (by omega) (by rw [hxk, ← hp]; exact hn) hx)
      have hD2 : w.heap.size + 3 ≤ D := by have := HSZ'.out; have := HW4.out; omega
      have HD := Lib.hid hD2
      have HC0 := Lib.hid c0
      have HC1 := Lib.hid c1
      have HB := Lib.hid hB
      have HK := Lib.hid hK
      clear hn c0 c1 hB hK hD hpre hp hxk hx hD2
      gi_wp2
      refine ⟨by simp, .inl ⟨_, _, rfl, run_takeDeferred HK.out, ?_⟩⟩
      have hd1 := HD.out
      refine ⟨_, results_two rfl _ _ w.heap.size (w.heap.size + 1) (.string (nameAt x)) (.int .i64 0) rfl rfl (Box.putObj HC0.out D _ (by omega)) (Box.putObj HC1.out D _ (by omega)), ?_, ?_⟩
      · rw [HM.out, HE.out, HF.out]; simp
      · exact HB.out.trans (belowK_b (w := w) (Nat.le_refl _) _ D _ _ (by omega) HK.out rfl rfl)
theorem forty_match (s : ByteArray) (w : World) (hs : s.size ≤ maxLen) : Calls Tryz.prog 90 #[.string s] w fun e W' => e = .returned (.tuple #[.string (matchB s), .int .i64 (matchE s)]) ∧ Ext w W' :=
  callsIn_wide.1 (match_in s w hs)
end Go.Proofs.YtdkjkbbibdppoaaGreatDoor.Forty
