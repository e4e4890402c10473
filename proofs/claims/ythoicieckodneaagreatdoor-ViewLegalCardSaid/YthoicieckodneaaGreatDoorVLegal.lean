/- The law ViewLegal: stops rise; each is where a cluster begins, or the text ends, not just behind a group, and not within an affix. (Printed by wip/gen/law16.py.) -/
import Derived.Test.YthoicieckodneaaGreatDoorVwP5
namespace Go.Proofs.YthoicieckodneaaGreatDoor.Loc
open Go.RowKit Utf All Small Strs Build EncC Pat Cls Dec Go.Proofs.YthoicieckodneaaGreatDoor.Sys
set_option linter.unusedVariables false
set_option linter.unusedSimpArgs false

set_option maxHeartbeats 16000000 in
set_option maxRecDepth 1000000 in
theorem law_ViewLegal (v0 v1 v2 v3 v4 v5 n : Int) (A0 B0 : Option Addr) (c0 e0 : Nat) (d0 : Dr) (w : World) (h0 : i64 v0) (h1 : i64 v1) (h2 : i64 v2) (h3 : i64 v3) (h4 : i64 v4) (h5 : i64 v5) (hn : i64 n) (hd : DrR w A0 B0 d0) (hi : DrI d0) (hT : Tabs w) :
    Calls Tryz.prog 11 #[.agg ([.int .i64 v0, .int .i64 v1, .int .i64 v2, .int .i64 v3, .int .i64 v4, .int .i64 v5] : List Value).toArray, .int .i64 n, .agg ([.bool d0.neg, .slice A0 d0.int.length c0, .bool d0.sep, .slice B0 d0.frac.length e0] : List Value).toArray] w fun e w' => e = .returned (.bool true) ∧ Below w.heap.size w w' := by
  obtain ⟨r, p, dd, hK, hdok, hdi, hdf, hBG⟩ := begin16 v0 v1 v2 v3 v4 v5 n A0 B0 c0 e0 d0 h0 h1 h2 h3 h4 h5 hn hi
  have HK := Lib.hid hK
  have HBG := Lib.hid hBG
  have HTW := Lib.hid hT
  have HDA := Lib.hid hd
  have HDO := Lib.hid hdok
  have HDI : Hid (dd.int.length ≤ 100) := Lib.hid (by omega)
  have HDF : Hid (dd.frac.length ≤ 100) := Lib.hid (by omega)
  have HIL := Lib.hid (items_le hK.both (d := dd) (by omega) (by omega))
  have HSN : Hid ((stopsP (itemsF (locOf r p) dd) (ahead (locOf r p) dd.neg).length).length = (atomsF dd).length + 1) := Lib.hid (stops_len hdok)
  have HUP := Lib.hid (stops_up hK.both hdok)
  have hal : (atomsF dd).length ≤ 19 := by rw [atoms_len]; split <;> omega
  have HLV : Hid (∀ W, Ext w W → Calls Tryz.prog 37 #[] W fun e w' => e = .returned (.bool true) ∧ Ext W w') := Lib.hid fun W hW => lives16 W (HTW.out.ext hW)
  have b1 := (Box.new w 23 [.int .i64 v0, .int .i64 v1, .int .i64 v2, .int .i64 v3, .int .i64 v4, .int .i64 v5]).alloc (.cells ([.bool d0.neg, .slice A0 d0.int.length c0, .bool d0.sep, .slice B0 d0.frac.length e0] : List Value).toArray 26)
  have c1 := Box.new (w.alloc (.cells ([.int .i64 v0, .int .i64 v1, .int .i64 v2, .int .i64 v3, .int .i64 v4, .int .i64 v5] : List Value).toArray 23)) 26 [.bool d0.neg, .slice A0 d0.int.length c0, .bool d0.sep, .slice B0 d0.frac.length e0]
  have hs1 : (w.alloc (.cells ([.int .i64 v0, .int .i64 v1, .int .i64 v2, .int .i64 v3, .int .i64 v4, .int .i64 v5] : List Value).toArray 23)).heap.size = w.heap.size + 1 := by simp
  rw [hs1] at c1
  have hx1 : Ext w ((w.alloc (.cells ([.int .i64 v0, .int .i64 v1, .int .i64 v2, .int .i64 v3, .int .i64 v4, .int .i64 v5] : List Value).toArray 23)).alloc (.cells ([.bool d0.neg, .slice A0 d0.int.length c0, .bool d0.sep, .slice B0 d0.frac.length e0] : List Value).toArray 26)) := Ext.alloc_ (Ext.alloc_ (Ext.refl w) _) _
  have HRG := Lib.hid b1.range
  have HRD := Lib.hid c1.range
  have HX1 := Lib.hid hx1
  clear hK hBG hd hi hT b1 c1 hs1 hx1 h0 h1 h2 h3 h4 h5 hn hdok
  go_enter Tryz.func11, Tryz.ntmps11
  go_upto_region 1 with fail
  change Code.wp _ _ _ _ ((w.alloc (.cells ([.int .i64 v0, .int .i64 v1, .int .i64 v2, .int .i64 v3, .int .i64 v4, .int .i64 v5] : List Value).toArray 23)).alloc (.cells ([.bool d0.neg, .slice A0 d0.int.length c0, .bool d0.sep, .slice B0 d0.frac.length e0] : List Value).toArray 26))
  generalize (w.alloc (.cells ([.int .i64 v0, .int .i64 v1, .int .i64 v2, .int .i64 v3, .int .i64 v4, .int .i64 v5] : List Value).toArray 23)).alloc (.cells ([.bool d0.neg, .slice A0 d0.int.length c0, .bool d0.sep, .slice B0 d0.frac.length e0] : List Value).toArray 26) = w1 at *
  generalize w.heap.size + 1 = db0 at *
  go_upto_region 2 with (first
    | (refine wpList_load_mid rfl 23 (.tmp 3) rfl w.heap.size 0 rfl [.int .i64 v0, .int .i64 v1, .int .i64 v2, .int .i64 v3, .int .i64 v4, .int .i64 v5] _ HRG.out Tryz.underlying23 rfl infoG ?_)
    | (refine wpList_load_mid rfl 26 (.tmp 5) rfl db0 0 rfl [.bool d0.neg, .slice A0 d0.int.length c0, .bool d0.sep, .slice B0 d0.frac.length e0] _ HRD.out Tryz.underlying26 rfl infoD14 ?_)
    | (go_at_call 30; with_reducible refine (HBG.out _ (HTW.out.ext HX1.out) (HDA.out.ext HX1.out)).mono ?_; rintro e w2 ⟨vb, E, cE, F, cF, A, B, C, D, c, d, a, b, X, Y, cx, cy, rfl, hvw, hpt, hcap, hdr, oX, oY, ⟨g, A', B', C', D', c', d', a', b', hLR⟩, hx2⟩; have hz1 := (Box.new w2 34 zero17).alloc (.cells zeroD.toArray 26); have hz2 := box_two w2 34 26 zero17 zeroD; have hz3 := hz2.other (k := w2.heap.size) (by omega) (refLV A B C D c d a b r p).toArray)
    | (refine wpList_store_row rfl 34 (.tmp 8) (.tmp 24) rfl w2.heap.size (refLV A B C D c d a b r p).toArray rfl rfl _ _ hz1 infoRL rfl (refL_one A B C D c d a b r p) ?_)
    | (refine wpList_store_row rfl 26 (.tmp 9) (.tmp 25) rfl (w2.heap.size + 1) ([.bool dd.neg, .slice X dd.int.length cx, .bool dd.sep, .slice Y dd.frac.length cy] : List Value).toArray rfl rfl _ _ hz3 infoD14 rfl (by simp [Value.oneCell']) ?_))
  have hx3 : Ext w2 ((((w2.alloc (.cells zero17.toArray 34)).alloc (.cells zeroD.toArray 26)).setRow w2.heap.size (refLV A B C D c d a b r p).toArray).setRow (w2.heap.size + 1) ([.bool dd.neg, .slice X dd.int.length cx, .bool dd.sep, .slice Y dd.frac.length cy] : List Value).toArray) := Ext.setRow (Ext.setRow (Ext.alloc_ (Ext.alloc_ (Ext.refl _) _) _) (Nat.le_refl _) _) (Nat.le_succ _) _
  have hb3 : Box ((((w2.alloc (.cells zero17.toArray 34)).alloc (.cells zeroD.toArray 26)).setRow w2.heap.size (refLV A B C D c d a b r p).toArray).setRow (w2.heap.size + 1) ([.bool dd.neg, .slice X dd.int.length cx, .bool dd.sep, .slice Y dd.frac.length cy] : List Value).toArray) w2.heap.size 34 (refLV A B C D c d a b r p) := (hz1.set (refLV A B C D c d a b r p).toArray).other (by omega) _
  have hc3 : Box ((((w2.alloc (.cells zero17.toArray 34)).alloc (.cells zeroD.toArray 26)).setRow w2.heap.size (refLV A B C D c d a b r p).toArray).setRow (w2.heap.size + 1) ([.bool dd.neg, .slice X dd.int.length cx, .bool dd.sep, .slice Y dd.frac.length cy] : List Value).toArray) (w2.heap.size + 1) 26 [.bool dd.neg, .slice X dd.int.length cx, .bool dd.sep, .slice Y dd.frac.length cy] := hz3.set ([.bool dd.neg, .slice X dd.int.length cx, .bool dd.sep, .slice Y dd.frac.length cy] : List Value).toArray
  change Code.wp _ _ _ _ ((((w2.alloc (.cells zero17.toArray 34)).alloc (.cells zeroD.toArray 26)).setRow w2.heap.size (refLV A B C D c d a b r p).toArray).setRow (w2.heap.size + 1) ([.bool dd.neg, .slice X dd.int.length cx, .bool dd.sep, .slice Y dd.frac.length cy] : List Value).toArray)
  have HVW := Lib.hid (hvw.ext hx3)
  have HPT := Lib.hid (hpt.ext hx3)
  have HDR := Lib.hid (hdr.ext hx3)
  have HLR := Lib.hid (hLR.ext hx3)
  have HX3 := Lib.hid (HX1.out.trans (hx2.trans hx3))
  have HCAP := Lib.hid hcap
  have HOX := Lib.hid oX
  have HOY := Lib.hid oY
  generalize (((w2.alloc (.cells zero17.toArray 34)).alloc (.cells zeroD.toArray 26)).setRow w2.heap.size (refLV A B C D c d a b r p).toArray).setRow (w2.heap.size + 1) ([.bool dd.neg, .slice X dd.int.length cx, .bool dd.sep, .slice Y dd.frac.length cy] : List Value).toArray = w3 at *
  generalize w2.heap.size + 1 = db at *
  generalize w2.heap.size = lb at *
  have HLB := Lib.hid hb3
  have HDB := Lib.hid hc3
  have HRL : Hid (w3.rangeAt lb 0 [.string ⟨r.name.toArray⟩, .string ⟨r.pattern.toArray⟩, .string ⟨r.system.toArray⟩, .string ⟨r.decimal.toArray⟩, .string ⟨r.group.toArray⟩, .string ⟨r.minus.toArray⟩, .string ⟨r.percent.toArray⟩, .string ⟨r.currency.toArray⟩, .slice A p.pre.length c, .slice B p.suf.length d, .slice C p.npre.length a, .slice D p.nsuf.length b, .int .i64 p.num.prim, .int .i64 p.num.sec, .int .i64 p.num.minInt, .int .i64 p.num.minFrac, .int .i64 p.num.maxFrac]) := Lib.hid hb3.range
  have HRE : Hid (w3.rangeAt db 0 [.bool dd.neg, .slice X dd.int.length cx, .bool dd.sep, .slice Y dd.frac.length cy]) := Lib.hid hc3.range
  clear hz1 hz2 hz3 hb3 hc3 hx2 hx3 hvw hpt hcap hdr oX oY hLR HRG HRD HBG
  generalize hL : itemsF (locOf r p) dd = L at *
  generalize hS : stopsP L (ahead (locOf r p) dd.neg).length = S at *
  have HVS : Hid (∀ W, Ext w3 W → Calls Tryz.prog 34 #[.pointer (some ⟨vb, 0, none⟩)] W fun e w' => ∃ G c', e = .returned (.slice G S.length c') ∧ Row w' G (natsV S) ∧ Ext W w') := Lib.hid fun W hW => view_stops (HVW.out.ext hW) (by have := HSN.out; omega)
  have HVT : Hid (∀ W, Ext w3 W → Calls Tryz.prog 36 #[.pointer (some ⟨vb, 0, none⟩)] W fun e w' => e = .returned (.string ⟨(textI L).toArray⟩) ∧ W = w') := Lib.hid fun W hW => view_text (HVW.out.ext hW)
  have HSR : Hid (∀ W, Calls Tryz.prog 41 #[.string ⟨(textI L).toArray⟩] W fun e w' => ∃ H c', e = .returned (.slice H (cstL (textI L)).length c') ∧ Row w' H ((cstL (textI L)).map (Value.int .i64)) ∧ Ext W w') := Lib.hid fun W => by
    have h := starts_ref ⟨(textI L).toArray⟩ W (by have := HIL.out.2.2; show (textI L).length ≤ 1000000; omega)
    exact h
  have HTG : Hid (∀ W (o : Int), i64 o → Ext w3 W → Calls Tryz.prog 42 #[.pointer (some ⟨vb, 0, none⟩), .int .i64 o] W fun e w' => e = .returned (.int .i64 (tagF L o)) ∧ Ext W w') := Lib.hid fun W o ho hW => view_tag (HVW.out.ext hW) o ho (by have := HIL.out.1; omega) HIL.out.2.1
  have HLN : Hid (∀ W, Ext w3 W → Calls Tryz.prog 35 #[.pointer (some ⟨vb, 0, none⟩)] W fun e w' => e = .returned (.int .i64 ((S.length : Int) - 1)) ∧ W = w') := Lib.hid fun W hW => view_len (HVW.out.ext hW) (by have := HSN.out; omega) (by have := HSN.out; omega)
  have HSB : Hid (∀ k, k < S.length → S.getD k 0 ≤ 400000 ∧ ((S.getD k 0 : Nat) : Int) ∈ cstL (textI L) ∧ tagF L (((S.getD k 0 : Nat) : Int) - 1) ≠ 3 ∧ (0 < k → tagF L (((S.getD k 0 : Nat) : Int) - 1) ≠ 0)) := Lib.hid fun k hk => by
    have h1 := stops_le (r := r) (p := p) (d := dd) (v := S.getD k 0) (by rw [hL, hS]; exact getD_mem hk)
    have h2 := HIL.out.2.2
    have h3 := stop_start HK.out.both HDO.out (v := S.getD k 0) (by rw [hL, hS]; exact getD_mem hk)
    have h4 := stop_tags HK.out.both HDO.out (k := k) (v := S.getD k 0) (by rw [hL, hS]; exact getD_some hk)
    rw [hL] at h1 h3 h4
    exact ⟨by omega, h3, h4⟩
  have HPL : Hid (∀ k, k + 1 < S.length → S.getD k 0 < S.getD (k + 1) 0) := Lib.hid fun k hk => pair_lt HUP.out (by omega) hk
  have hcl : (cstL (textI L)).length ≤ 1000000 := by
    have h1 := starts_len_le (textI L)
    have h2 := HIL.out.2.2
    omega
  clear hL hS
  generalize cstL (textI L) = ST at *
  generalize textI L = TX at *
  have hsn : S.length ≤ 20 := by have := HSN.out; omega
  have hs1 : 1 ≤ S.length := by have := HSN.out; omega
  generalize hNN : S.length = N at *
  have HNN := Lib.hid hNN
  generalize hMM : ST.length = M at *
  have HMM := Lib.hid hMM
  clear hNN hMM
  go_upto_region 7 with (first
    | (go_at_call 34; with_reducible refine (HVS.out _ (Ext.refl _)).mono ?_; rintro e w4 ⟨G, cG, rfl, hrG, hx4⟩)
    | (go_at_call 36; with_reducible refine (HVT.out _ hx4).mono ?_; rintro e w5 ⟨rfl, rfl⟩)
    | (go_at_call 41; with_reducible refine (HSR.out _).mono ?_; rintro e w6 ⟨H, cH, rfl, hrH, hx6⟩))
  have HRG := Lib.hid (hrG.below hx6 (Nat.le_refl _))
  have HRH := Lib.hid hrH
  have HX6 := Lib.hid (hx4.trans hx6)
  clear hrG hrH hx4 hx6
  go_upto_region 8 with fail
  go_wp2
  go_loopw [13, 14, 15, 16, 17] (fun i _ _ _ _ wr => ∃ k : Nat, k ≤ N ∧ i = .int .i64 k ∧ Ext w6 wr) (fun i _ _ _ _ _ => N - (intOf i).toNat)
  case atStart => exact ⟨0, Nat.zero_le _, rfl, Ext.refl _⟩
  case round =>
    obtain ⟨k, hk, rfl, hx⟩ := hrel
    by_cases hlt : k < N
    · obtain ⟨hsb, hmem, ht3, ht0⟩ := HSB.out k hlt
      have HVM := Lib.hid hmem
      have HT3 := Lib.hid ht3
      have HT0 := Lib.hid ht0
      obtain ⟨gb, go, rfl, hcg⟩ := nats_row (HRG.out.below hx (Nat.le_refl _)) (show k < S.length by have := HNN.out; omega)
      have HX := Lib.hid hx
      have i1 : (k : Int) < (N : Int) := by omega
      have i3 : (0 : Int) ≤ (k : Int) := by omega
      by_cases h0 : k = 0
      · have i2 : ¬ ((k : Int) > 0) := by omega
        generalize S.getD k 0 = v at *
        clear h0 hmem ht3 ht0 hx
        have HVM2 : Hid ((ST.any fun z => z == (v : Int)) = true) := Lib.hid (List.any_eq_true.2 ⟨_, HVM.out, by simp⟩)
        go_upto_region 15 with fail
        go_wp2
        go_loopw [15, 16] (fun o i wq => ∃ m : Nat, m ≤ M ∧ i = .int .i64 m ∧ o = .bool ((ST.take m).any fun z => z == (v : Int)) ∧ Ext wr wq) (fun _ i _ => M - (intOf i).toNat)
        case atStart => exact ⟨0, Nat.zero_le _, rfl, by simp, Ext.refl _⟩
        case round =>
          obtain ⟨m, hm, rfl, rfl, hq⟩ := hrel
          by_cases hlm : m < M
          · have hml : m < ST.length := by have := HMM.out; omega
            obtain ⟨hb, ho, rfl, hch⟩ := row_ints (HRH.out.below (HX.out.trans hq) (Nat.le_refl _)) hml
            have hgd : ST.getD m 0 = ST[m] := by rw [List.getD_eq_getElem?_getD, List.getElem?_eq_getElem hml]; rfl
            rw [hgd] at hch
            have HTS := Lib.hid (any_snoc (fun z : Int => z == (v : Int)) ST m hml)
            generalize ST[m] = y at *
            generalize ((ST.take m).any fun z => z == (v : Int)) = bb at *
            have j1 : (m : Int) < (M : Int) := by omega
            have j2 : (0 : Int) ≤ (m : Int) := by omega
            have HQ := Lib.hid hq
            clear hq hgd hml
            cases bb
            · cases hby : (y == (v : Int))
              · have HBY := Lib.hid hby
                go_wp2
                go_roundw
                case rel => exact ⟨m + 1, by omega, by go_num, by rw [HTS.out, HBY.out]; rfl, HQ.out⟩
                case measure => simp [intOf]; omega
              · have HBY := Lib.hid hby
                go_wp2
                go_roundw
                case rel => exact ⟨m + 1, by omega, by go_num, by rw [HTS.out, HBY.out]; rfl, HQ.out⟩
                case measure => simp [intOf]; omega
            · go_wp2
              go_roundw
              case rel => exact ⟨m + 1, by omega, by go_num, by rw [HTS.out]; rfl, HQ.out⟩
              case measure => simp [intOf]; omega
          · have e : m = M := by omega
            subst e
            have HTM : Hid (ST.take m = ST) := Lib.hid (List.take_of_length_le (by have := HMM.out; omega))
            rw [HTM.out, HVM2.out]
            have j1 : ¬ ((m : Int) < (m : Int)) := by omega
            have HQ := Lib.hid (HX.out.trans hq)
            clear hq
            have w1 : IntKind.i64.wrap ((v : Int) - 1) = (v : Int) - 1 := by rw [IntKind.wrap_i64]; omega
            have HTA := Lib.hid (fun W hW => HTG.out W ((v : Int) - 1) ⟨by omega, by omega⟩ (HX6.out.trans (HQ.out.trans hW)))
            have HTB := Lib.hid (fun W hW => HTG.out W (v : Int) ⟨by omega, by omega⟩ (HX6.out.trans (HQ.out.trans hW)))
            have ht3 := HT3.out
            have ht0 := HT0.out
            generalize tagF L ((v : Int) - 1) = ta at *
            generalize tagF L (v : Int) = tb at *
            have b3 : (ta == 3) = false := by simpa using ht3
            clear w1
            by_cases hz : ta = 0
            · have b0 : (ta == 0) = true := by simpa using hz
              clear hz ht3 ht0
              cases hb0 : (tb == 0)
              · go_wp2_with (first
                  | (go_at_call 42; with_reducible refine (HTA.out _ (Ext.refl _)).mono ?_; rintro e w7 ⟨rfl, hx7⟩)
                  | (go_at_call 42; with_reducible refine (HTB.out _ hx7).mono ?_; rintro e w8 ⟨rfl, hx8⟩))
                go_roundw
                case rel => exact ⟨k + 1, by omega, by go_num, HQ.out.trans (hx7.trans hx8)⟩
                case measure => simp [intOf]; omega
              · go_wp2_with (first
                  | (go_at_call 42; with_reducible refine (HTA.out _ (Ext.refl _)).mono ?_; rintro e w7 ⟨rfl, hx7⟩)
                  | (go_at_call 42; with_reducible refine (HTB.out _ hx7).mono ?_; rintro e w8 ⟨rfl, hx8⟩))
                go_roundw
                case rel => exact ⟨k + 1, by omega, by go_num, HQ.out.trans (hx7.trans hx8)⟩
                case measure => simp [intOf]; omega
            · have b0 : (ta == 0) = false := by simpa using hz
              go_wp2_with (go_at_call 42; with_reducible refine (HTA.out _ (Ext.refl _)).mono ?_; rintro e w7 ⟨rfl, hx7⟩)
              go_roundw
              case rel => exact ⟨k + 1, by omega, by go_num, HQ.out.trans hx7⟩
              case measure => simp [intOf]; omega
      · obtain ⟨j, rfl⟩ : ∃ j, k = j + 1 := ⟨k - 1, by omega⟩
        have hpl := HPL.out j (by omega)
        have hcj : wr.cell? ⟨gb, go + j, none⟩ = some (.int .i64 ((S.getD j 0 : Nat) : Int)) := by
          have hr := HRG.out.below hx (Nat.le_refl _)
          rw [nats_ints] at hr
          have hh := row_cell hr (k := j) (by rw [intsN_len]; have := HNN.out; omega)
          rwa [intsN_at] at hh
        generalize S.getD (j + 1) 0 = v at *
        generalize S.getD j 0 = u at *
        have i2 : (j : Int) + 1 > 0 := by omega
        have i4 : ¬ ((v : Int) ≤ (u : Int)) := by omega
        have e1 : max ((j : Int) + 1 - 1) 0 = (j : Int) := by omega
        have e2 : max (j : Int) 0 = (j : Int) := by omega
        have e3 : (j : Int) < (N : Int) := by omega
        have e4 : (0 : Int) ≤ (j : Int) := by omega
        have i5 : (j : Int) + 1 < (N : Int) := by omega
        clear h0 hmem ht3 ht0 hx
        have HVM2 : Hid ((ST.any fun z => z == (v : Int)) = true) := Lib.hid (List.any_eq_true.2 ⟨_, HVM.out, by simp⟩)
        go_upto_region 15 with fail
        go_wp2
        go_loopw [15, 16] (fun o i wq => ∃ m : Nat, m ≤ M ∧ i = .int .i64 m ∧ o = .bool ((ST.take m).any fun z => z == (v : Int)) ∧ Ext wr wq) (fun _ i _ => M - (intOf i).toNat)
        case atStart => exact ⟨0, Nat.zero_le _, rfl, by simp, Ext.refl _⟩
        case round =>
          obtain ⟨m, hm, rfl, rfl, hq⟩ := hrel
          by_cases hlm : m < M
          · have hml : m < ST.length := by have := HMM.out; omega
            obtain ⟨hb, ho, rfl, hch⟩ := row_ints (HRH.out.below (HX.out.trans hq) (Nat.le_refl _)) hml
            have hgd : ST.getD m 0 = ST[m] := by rw [List.getD_eq_getElem?_getD, List.getElem?_eq_getElem hml]; rfl
            rw [hgd] at hch
            have HTS := Lib.hid (any_snoc (fun z : Int => z == (v : Int)) ST m hml)
            generalize ST[m] = y at *
            generalize ((ST.take m).any fun z => z == (v : Int)) = bb at *
            have j1 : (m : Int) < (M : Int) := by omega
            have j2 : (0 : Int) ≤ (m : Int) := by omega
            have HQ := Lib.hid hq
            clear hq hgd hml
            cases bb
            · cases hby : (y == (v : Int))
              · have HBY := Lib.hid hby
                go_wp2
                go_roundw
                case rel => exact ⟨m + 1, by omega, by go_num, by rw [HTS.out, HBY.out]; rfl, HQ.out⟩
                case measure => simp [intOf]; omega
              · have HBY := Lib.hid hby
                go_wp2
                go_roundw
                case rel => exact ⟨m + 1, by omega, by go_num, by rw [HTS.out, HBY.out]; rfl, HQ.out⟩
                case measure => simp [intOf]; omega
            · go_wp2
              go_roundw
              case rel => exact ⟨m + 1, by omega, by go_num, by rw [HTS.out]; rfl, HQ.out⟩
              case measure => simp [intOf]; omega
          · have e : m = M := by omega
            subst e
            have HTM : Hid (ST.take m = ST) := Lib.hid (List.take_of_length_le (by have := HMM.out; omega))
            rw [HTM.out, HVM2.out]
            have j1 : ¬ ((m : Int) < (m : Int)) := by omega
            have HQ := Lib.hid (HX.out.trans hq)
            clear hq
            have w1 : IntKind.i64.wrap ((v : Int) - 1) = (v : Int) - 1 := by rw [IntKind.wrap_i64]; omega
            have HTA := Lib.hid (fun W hW => HTG.out W ((v : Int) - 1) ⟨by omega, by omega⟩ (HX6.out.trans (HQ.out.trans hW)))
            have HTB := Lib.hid (fun W hW => HTG.out W (v : Int) ⟨by omega, by omega⟩ (HX6.out.trans (HQ.out.trans hW)))
            have ht3 := HT3.out
            have ht0 := HT0.out
            generalize tagF L ((v : Int) - 1) = ta at *
            generalize tagF L (v : Int) = tb at *
            have b3 : (ta == 3) = false := by simpa using ht3
            clear w1
            by_cases hz : ta = 0
            · exact absurd hz (ht0 (by omega))
            · have b0 : (ta == 0) = false := by simpa using hz
              go_wp2_with (go_at_call 42; with_reducible refine (HTA.out _ (Ext.refl _)).mono ?_; rintro e w7 ⟨rfl, hx7⟩)
              go_roundw
              case rel => exact ⟨(j + 1) + 1, by omega, by go_num, HQ.out.trans hx7⟩
              case measure => simp [intOf]; omega
    · have e : k = N := by omega
      subst e
      have i1 : ¬ ((k : Int) < (k : Int)) := by omega
      have e1 : (k : Int) - 1 + 1 = (k : Int) := by omega
      have bn : ((k : Int) == (k : Int)) = true := by simp
      have HX := Lib.hid (HX6.out.trans hx)
      clear hx
      go_wp2_with (first
        | (go_at_call 35; with_reducible refine (HLN.out _ HX.out).mono ?_; rintro e w7 ⟨rfl, rfl⟩)
        | (go_at_call 37; with_reducible refine (HLV.out _ (HX3.out.trans HX.out)).mono ?_; rintro e w8 ⟨rfl, hx8⟩))
      go_ret
      exact ⟨rfl, HX3.out.trans (HX.out.trans hx8)⟩
end Go.Proofs.YthoicieckodneaaGreatDoor.Loc
