/- Walk: the document's stops. -/
import Derived.Test.YthoicieckodneaaGreatDoorVwW4
namespace Go.Proofs.YthoicieckodneaaGreatDoor.Loc
open Go.RowKit Utf All Small Strs Build EncC Pat Cls Dec Go.Proofs.YthoicieckodneaaGreatDoor.Sys
set_option linter.unusedVariables false
set_option linter.unusedSimpArgs false

theorem lastTo_succ (L : List It) (k m : Nat) : lastTo L k (m + 1) = if atK L m && decide ((L.take m).countP isAt < k) then cum L (m + 1) else lastTo L k m := rfl
set_option maxHeartbeats 16000000 in
set_option maxRecDepth 100000 in
theorem ref16_stops (A B C D X Y : Option Addr) (c d a b cx cy : Nat) (dd : Dr) (r : Rec) (p : Pt) (w : World) (hK : Knd r p)
    (hpt : PtR w A B C D p) (hcap : CapR p c d a b) (hd : DrR w X Y dd) (ox : Okc X cx) (oy : Okc Y cy) (hok : DrOk dd) (hi : dd.int.length ≤ 100) (hf : dd.frac.length ≤ 100) :
    Calls Tryz.prog 31 #[.agg ([.string ⟨r.name.toArray⟩, .string ⟨r.pattern.toArray⟩, .string ⟨r.system.toArray⟩, .string ⟨r.decimal.toArray⟩, .string ⟨r.group.toArray⟩, .string ⟨r.minus.toArray⟩, .string ⟨r.percent.toArray⟩, .string ⟨r.currency.toArray⟩, .slice A p.pre.length c, .slice B p.suf.length d, .slice C p.npre.length a, .slice D p.nsuf.length b, .int .i64 p.num.prim, .int .i64 p.num.sec, .int .i64 p.num.minInt, .int .i64 p.num.minFrac, .int .i64 p.num.maxFrac] : List Value).toArray, .agg ([.bool dd.neg, .slice X dd.int.length cx, .bool dd.sep, .slice Y dd.frac.length cy] : List Value).toArray] w fun e w' => ∃ G c', e = .returned (.slice G (stopsP (itemsF (locOf r p) dd) (ahead (locOf r p) dd.neg).length).length c') ∧ Row w' G (natsV (stopsP (itemsF (locOf r p) dd) (ahead (locOf r p) dd.neg).length)) ∧ Ext w w' := by
  have HRA : Hid (∀ W, Ext w W → Calls Tryz.prog 59 #[.agg ([.string ⟨r.name.toArray⟩, .string ⟨r.pattern.toArray⟩, .string ⟨r.system.toArray⟩, .string ⟨r.decimal.toArray⟩, .string ⟨r.group.toArray⟩, .string ⟨r.minus.toArray⟩, .string ⟨r.percent.toArray⟩, .string ⟨r.currency.toArray⟩, .slice A p.pre.length c, .slice B p.suf.length d, .slice C p.npre.length a, .slice D p.nsuf.length b, .int .i64 p.num.prim, .int .i64 p.num.sec, .int .i64 p.num.minInt, .int .i64 p.num.minFrac, .int .i64 p.num.maxFrac] : List Value).toArray, .bool dd.neg] W fun e w' => ∃ E c1 F c2, e = .returned (.tuple #[.slice E (ahead (locOf r p) dd.neg).length c1, .slice F (behind (locOf r p) dd.neg).length c2]) ∧ Ext W w') := Lib.hid fun W hW =>
    (ref_around A B C D c d a b dd.neg r p W hK.both (hpt.ext hW) hcap).mono fun e w' ⟨E, c1, F, c2, h1, _, _, _, _, h2⟩ => ⟨E, c1, F, c2, h1, h2⟩
  have HRI : Hid (∀ W, Ext w W → Calls Tryz.prog 21 #[.agg ([.string ⟨r.name.toArray⟩, .string ⟨r.pattern.toArray⟩, .string ⟨r.system.toArray⟩, .string ⟨r.decimal.toArray⟩, .string ⟨r.group.toArray⟩, .string ⟨r.minus.toArray⟩, .string ⟨r.percent.toArray⟩, .string ⟨r.currency.toArray⟩, .slice A p.pre.length c, .slice B p.suf.length d, .slice C p.npre.length a, .slice D p.nsuf.length b, .int .i64 p.num.prim, .int .i64 p.num.sec, .int .i64 p.num.minInt, .int .i64 p.num.minFrac, .int .i64 p.num.maxFrac] : List Value).toArray, .agg ([.bool dd.neg, .slice X dd.int.length cx, .bool dd.sep, .slice Y dd.frac.length cy] : List Value).toArray] W fun e w' => ∃ F cF, e = .returned (.slice F (itemsF (locOf r p) dd).length cF) ∧ Row w' F (itsV (itemsF (locOf r p) dd)) ∧ Okc F cF ∧ (itemsF (locOf r p) dd).length ≤ cF ∧ Ext W w') := Lib.hid fun W hW =>
    (ref15_items A B C D X Y c d a b cx cy dd r p W hK.both hK.num (hpt.ext hW) hcap (hd.ext hW) ox oy hok hi hf).mono fun e w' ⟨F, cF, h1, h2⟩ => ⟨F, cF, h1, h2.row, Acc.okc h2, h2.cap.1, h2.ext⟩
  have HAT : Hid (∀ W, Ext w W → Calls Tryz.prog 18 #[.agg ([.bool dd.neg, .slice X dd.int.length cx, .bool dd.sep, .slice Y dd.frac.length cy] : List Value).toArray] W fun e w' => ∃ E c', e = .returned (.slice E (atomsF dd).length c') ∧ Ext W w') := Lib.hid fun W hW => (ref14_atoms X Y cx cy dd W (hd.ext hW) ox oy hi hf).mono fun e w' ⟨E, c', h1, h2⟩ => ⟨E, c', h1, h2.ext⟩
  have HIL := Lib.hid (items_le hK.both hi hf)
  have HSA : Hid (stopsP (itemsF (locOf r p) dd) (ahead (locOf r p) dd.neg).length = (List.range ((atomsF dd).length + 1)).map (stopK (itemsF (locOf r p) dd) (ahead (locOf r p) dd.neg).length)) := Lib.hid (by
    rw [stops_at (fun k hk => low_k k hk) low_len, items_count hok])
  have HIA : Hid (∀ i x, (itemsF (locOf r p) dd)[i]? = some x → (isAt x = true → x.2.2 = (((itemsF (locOf r p) dd).take i).countP isAt : Int)) ∧ (isAt x = false → x.2.2 = -1)) := Lib.hid fun i x hx => ⟨fun ha => by
    have h2 := (items_at hok hx ha).2
    rw [h2]; exact atomI_at _ _ _, fun ha => items_none (List.mem_of_getElem? hx) ha⟩
  have hal : (atomsF dd).length ≤ 201 := by rw [atoms_len]; split <;> omega
  have hle := low_len (r := r) (p := p) (d := dd)
  have b1 := (Box.new w 34 [.string ⟨r.name.toArray⟩, .string ⟨r.pattern.toArray⟩, .string ⟨r.system.toArray⟩, .string ⟨r.decimal.toArray⟩, .string ⟨r.group.toArray⟩, .string ⟨r.minus.toArray⟩, .string ⟨r.percent.toArray⟩, .string ⟨r.currency.toArray⟩, .slice A p.pre.length c, .slice B p.suf.length d, .slice C p.npre.length a, .slice D p.nsuf.length b, .int .i64 p.num.prim, .int .i64 p.num.sec, .int .i64 p.num.minInt, .int .i64 p.num.minFrac, .int .i64 p.num.maxFrac]).alloc (.cells ([.bool dd.neg, .slice X dd.int.length cx, .bool dd.sep, .slice Y dd.frac.length cy] : List Value).toArray 26)
  have c1 := Box.new (w.alloc (.cells ([.string ⟨r.name.toArray⟩, .string ⟨r.pattern.toArray⟩, .string ⟨r.system.toArray⟩, .string ⟨r.decimal.toArray⟩, .string ⟨r.group.toArray⟩, .string ⟨r.minus.toArray⟩, .string ⟨r.percent.toArray⟩, .string ⟨r.currency.toArray⟩, .slice A p.pre.length c, .slice B p.suf.length d, .slice C p.npre.length a, .slice D p.nsuf.length b, .int .i64 p.num.prim, .int .i64 p.num.sec, .int .i64 p.num.minInt, .int .i64 p.num.minFrac, .int .i64 p.num.maxFrac] : List Value).toArray 34)) 26 [.bool dd.neg, .slice X dd.int.length cx, .bool dd.sep, .slice Y dd.frac.length cy]
  have hs1 : (w.alloc (.cells ([.string ⟨r.name.toArray⟩, .string ⟨r.pattern.toArray⟩, .string ⟨r.system.toArray⟩, .string ⟨r.decimal.toArray⟩, .string ⟨r.group.toArray⟩, .string ⟨r.minus.toArray⟩, .string ⟨r.percent.toArray⟩, .string ⟨r.currency.toArray⟩, .slice A p.pre.length c, .slice B p.suf.length d, .slice C p.npre.length a, .slice D p.nsuf.length b, .int .i64 p.num.prim, .int .i64 p.num.sec, .int .i64 p.num.minInt, .int .i64 p.num.minFrac, .int .i64 p.num.maxFrac] : List Value).toArray 34)).heap.size = w.heap.size + 1 := by simp
  rw [hs1] at c1
  have hx1 : Ext w ((w.alloc (.cells ([.string ⟨r.name.toArray⟩, .string ⟨r.pattern.toArray⟩, .string ⟨r.system.toArray⟩, .string ⟨r.decimal.toArray⟩, .string ⟨r.group.toArray⟩, .string ⟨r.minus.toArray⟩, .string ⟨r.percent.toArray⟩, .string ⟨r.currency.toArray⟩, .slice A p.pre.length c, .slice B p.suf.length d, .slice C p.npre.length a, .slice D p.nsuf.length b, .int .i64 p.num.prim, .int .i64 p.num.sec, .int .i64 p.num.minInt, .int .i64 p.num.minFrac, .int .i64 p.num.maxFrac] : List Value).toArray 34)).alloc (.cells ([.bool dd.neg, .slice X dd.int.length cx, .bool dd.sep, .slice Y dd.frac.length cy] : List Value).toArray 26)) := Ext.alloc_ (Ext.alloc_ (Ext.refl w) _) _
  have HB1 := Lib.hid b1
  have HC1 := Lib.hid c1
  have HX1 := Lib.hid hx1
  have HR1 : Hid (((w.alloc (.cells ([.string ⟨r.name.toArray⟩, .string ⟨r.pattern.toArray⟩, .string ⟨r.system.toArray⟩, .string ⟨r.decimal.toArray⟩, .string ⟨r.group.toArray⟩, .string ⟨r.minus.toArray⟩, .string ⟨r.percent.toArray⟩, .string ⟨r.currency.toArray⟩, .slice A p.pre.length c, .slice B p.suf.length d, .slice C p.npre.length a, .slice D p.nsuf.length b, .int .i64 p.num.prim, .int .i64 p.num.sec, .int .i64 p.num.minInt, .int .i64 p.num.minFrac, .int .i64 p.num.maxFrac] : List Value).toArray 34)).alloc (.cells ([.bool dd.neg, .slice X dd.int.length cx, .bool dd.sep, .slice Y dd.frac.length cy] : List Value).toArray 26)).rangeAt w.heap.size 0 [.string ⟨r.name.toArray⟩, .string ⟨r.pattern.toArray⟩, .string ⟨r.system.toArray⟩, .string ⟨r.decimal.toArray⟩, .string ⟨r.group.toArray⟩, .string ⟨r.minus.toArray⟩, .string ⟨r.percent.toArray⟩, .string ⟨r.currency.toArray⟩, .slice A p.pre.length c, .slice B p.suf.length d, .slice C p.npre.length a, .slice D p.nsuf.length b, .int .i64 p.num.prim, .int .i64 p.num.sec, .int .i64 p.num.minInt, .int .i64 p.num.minFrac, .int .i64 p.num.maxFrac]) := Lib.hid b1.range
  have HD1 : Hid (((w.alloc (.cells ([.string ⟨r.name.toArray⟩, .string ⟨r.pattern.toArray⟩, .string ⟨r.system.toArray⟩, .string ⟨r.decimal.toArray⟩, .string ⟨r.group.toArray⟩, .string ⟨r.minus.toArray⟩, .string ⟨r.percent.toArray⟩, .string ⟨r.currency.toArray⟩, .slice A p.pre.length c, .slice B p.suf.length d, .slice C p.npre.length a, .slice D p.nsuf.length b, .int .i64 p.num.prim, .int .i64 p.num.sec, .int .i64 p.num.minInt, .int .i64 p.num.minFrac, .int .i64 p.num.maxFrac] : List Value).toArray 34)).alloc (.cells ([.bool dd.neg, .slice X dd.int.length cx, .bool dd.sep, .slice Y dd.frac.length cy] : List Value).toArray 26)).rangeAt (w.heap.size + 1) 0 [.bool dd.neg, .slice X dd.int.length cx, .bool dd.sep, .slice Y dd.frac.length cy]) := Lib.hid c1.range
  clear b1 c1 hs1 hx1 hpt hcap hd
  generalize hL : itemsF (locOf r p) dd = L at *
  generalize hna : (ahead (locOf r p) dd.neg).length = na at *
  clear hL hna
  generalize hNN : (atomsF dd).length = n at *
  clear hNN
  have HSL : Hid ((stopsP L na).length = n + 1) := Lib.hid (by rw [HSA.out, List.length_map, List.length_range])
  have HSV : Hid (natsV (stopsP L na) = natsV ((List.range (n + 1)).map (stopK L na))) := Lib.hid (by rw [HSA.out])
  have HRS : Hid (∀ k, natsV ((List.range (k + 1)).map (stopK L na)) = natsV ((List.range k).map (stopK L na)) ++ [.int .i64 ((stopK L na k : Nat) : Int)]) := Lib.hid fun k => by
    unfold natsV
    rw [List.range_succ, List.map_append, List.map_append]; rfl
  have HSK : Hid (∀ k, stopK L na k = if k = 0 then cum L na else lastTo L k L.length) := Lib.hid fun k => rfl
  have HLS : Hid (∀ k m, lastTo L k (m + 1) = if atK L m && decide ((L.take m).countP isAt < k) then cum L (m + 1) else lastTo L k m) := Lib.hid fun k m => lastTo_succ L k m
  have HL0 : Hid (∀ k, lastTo L k 0 = 0) := Lib.hid fun k => rfl
  have HTE : Hid (∀ W E cE k, Row W E (itsV L) → k ≤ L.length → Calls Tryz.prog 25 #[.slice E k cE] W fun e w' => e = .returned (.string ⟨(textI (L.take k)).toArray⟩) ∧ Ext W w') := Lib.hid fun W E cE k hr hk => by
    refine ref15_text E k cE (L.take k) W ?_ (by rw [List.length_take]; omega) (by have := HIL.out.1; omega) (fun x hx => HIL.out.2.1 x (List.mem_of_mem_take hx))
    rw [its_take L hk]
    exact hr.take
  have HCT : Hid (∀ k, (textI (L.take k)).length = cum L k) := Lib.hid fun k => rfl
  have HCB : Hid (∀ k, cum L k ≤ 400000) := Lib.hid fun k => Nat.le_trans (cum_le L k) HIL.out.2.2
  have HIL1 := HIL.out.1
  obtain ⟨N, hN⟩ : ∃ N, L.length = N := ⟨_, rfl⟩
  have HN := Lib.hid hN
  rw [hN] at hle HIL1
  go_enter Tryz.func31, Tryz.ntmps31
  go_upto_region 1 with fail
  change Code.wp _ _ _ _ ((w.alloc (.cells ([.string ⟨r.name.toArray⟩, .string ⟨r.pattern.toArray⟩, .string ⟨r.system.toArray⟩, .string ⟨r.decimal.toArray⟩, .string ⟨r.group.toArray⟩, .string ⟨r.minus.toArray⟩, .string ⟨r.percent.toArray⟩, .string ⟨r.currency.toArray⟩, .slice A p.pre.length c, .slice B p.suf.length d, .slice C p.npre.length a, .slice D p.nsuf.length b, .int .i64 p.num.prim, .int .i64 p.num.sec, .int .i64 p.num.minInt, .int .i64 p.num.minFrac, .int .i64 p.num.maxFrac] : List Value).toArray 34)).alloc (.cells ([.bool dd.neg, .slice X dd.int.length cx, .bool dd.sep, .slice Y dd.frac.length cy] : List Value).toArray 26))
  generalize (w.alloc (.cells ([.string ⟨r.name.toArray⟩, .string ⟨r.pattern.toArray⟩, .string ⟨r.system.toArray⟩, .string ⟨r.decimal.toArray⟩, .string ⟨r.group.toArray⟩, .string ⟨r.minus.toArray⟩, .string ⟨r.percent.toArray⟩, .string ⟨r.currency.toArray⟩, .slice A p.pre.length c, .slice B p.suf.length d, .slice C p.npre.length a, .slice D p.nsuf.length b, .int .i64 p.num.prim, .int .i64 p.num.sec, .int .i64 p.num.minInt, .int .i64 p.num.minFrac, .int .i64 p.num.maxFrac] : List Value).toArray 34)).alloc (.cells ([.bool dd.neg, .slice X dd.int.length cx, .bool dd.sep, .slice Y dd.frac.length cy] : List Value).toArray 26) = w1 at *
  generalize hlbd : w.heap.size = lb at *
  clear hlbd
  rw [hN] at HRI
  clear hN
  go_upto_region 4 with (first
    | (refine wpList_load_mid rfl 34 (.tmp 2) rfl lb 0 rfl [.string ⟨r.name.toArray⟩, .string ⟨r.pattern.toArray⟩, .string ⟨r.system.toArray⟩, .string ⟨r.decimal.toArray⟩, .string ⟨r.group.toArray⟩, .string ⟨r.minus.toArray⟩, .string ⟨r.percent.toArray⟩, .string ⟨r.currency.toArray⟩, .slice A p.pre.length c, .slice B p.suf.length d, .slice C p.npre.length a, .slice D p.nsuf.length b, .int .i64 p.num.prim, .int .i64 p.num.sec, .int .i64 p.num.minInt, .int .i64 p.num.minFrac, .int .i64 p.num.maxFrac] _ HR1.out Tryz.underlying34 rfl infoRL ?_)
    | (refine wpList_load_mid rfl 26 (.tmp 3) rfl (lb + 1) 0 rfl [.bool dd.neg, .slice X dd.int.length cx, .bool dd.sep, .slice Y dd.frac.length cy] _ HD1.out Tryz.underlying26 rfl infoD14 ?_)
    | (go_at_call 21; with_reducible refine (HRI.out _ HX1.out).mono ?_; rintro e w2 ⟨E, cE, rfl, hrE, oE, hcE, hx2⟩; have HD2 := Lib.hid (Ext.range_ hx2 HD1.out))
    | (refine wpList_load_mid rfl 26 (.tmp 3) rfl (lb + 1) 0 rfl [.bool dd.neg, .slice X dd.int.length cx, .bool dd.sep, .slice Y dd.frac.length cy] _ HD2.out Tryz.underlying26 rfl infoD14 ?_)
    | (go_at_call 18; with_reducible refine (HAT.out _ (HX1.out.trans hx2)).mono ?_; rintro e w3 ⟨Q, cQ, rfl, hx3⟩))
  have HRE := Lib.hid (hrE.below hx3 (Nat.le_refl _))
  have HX3 := Lib.hid (HX1.out.trans (hx2.trans hx3))
  have HR3 := Lib.hid (Ext.range_ (hx2.trans hx3) HR1.out)
  have HC3 := Lib.hid (HC1.out.ext (hx2.trans hx3))
  clear hrE oE hx2 hx3 HAT HRI HR1 HD1 HD2 HB1 HC1
  go_upto_region 5 with fail
  go_wp2
  go_loopw [7, 8, 9, 10, 11, 12] (fun v i _ _ _ _ wr => ∃ (k : Nat) (G : Option Addr) (c' : Nat), k ≤ n + 1 ∧ i = .int .i64 k ∧ v = .slice G k c' ∧ Acc 3 1 w3 wr G c' k (natsV ((List.range k).map (stopK L na)))) (fun _ i _ _ _ _ _ => n + 1 - (intOf i).toNat)
  case atStart => exact ⟨0, none, 0, Nat.zero_le _, rfl, rfl, Acc.start _ _ _⟩
  case round =>
    obtain ⟨k, G, c', hk, rfl, rfl, hacc⟩ := hrel
    have HA := Lib.hid hacc
    clear hacc
    by_cases hlt : k ≤ n
    · have i1 : (k : Int) ≤ (n : Int) := by omega
      go_upto_region 9 with fail
      go_wp2
      go_loopw [9, 10] (fun t i wq => ∃ m : Nat, m ≤ N ∧ i = .int .i64 m ∧ t = .int .i64 (lastTo L k m) ∧ Ext wr wq) (fun _ i _ => N - (intOf i).toNat)
      case atStart => exact ⟨0, Nat.zero_le _, rfl, by rw [HL0.out]; rfl, Ext.refl _⟩
      case round =>
        obtain ⟨m, hm, rfl, rfl, hq⟩ := hrel
        by_cases hlm : m < N
        · have hml : m < L.length := by have := HN.out; omega
          have hrw := HRE.out.below (Ext.trans HA.out.ext hq) (Nat.le_refl _)
          have HTM := Lib.hid (HTE.out wr E cE (m + 1) hrw (by have := HN.out; omega))
          obtain ⟨bx, ox, hEe, hg⟩ := row_it hrw hml
          have hia := HIA.out m _ (List.getElem?_eq_getElem hml)
          have hls := HLS.out k m
          have hak : atK L m = isAt L[m] := by unfold atK; rw [List.getElem?_eq_getElem hml]; rfl
          rw [hak] at hls
          subst hEe
          clear hrw hak
          generalize L[m] = x at *
          obtain ⟨tg, t, at_⟩ := x
          simp only at hg hia hls
          have c2 : wr.cell? ⟨bx, ox + m * 3 + 2, none⟩ = some (.int .i64 at_) := hg 2 _ rfl
          have HQ := Lib.hid hq
          have HLSM := Lib.hid hls
          have HCM := Lib.hid (HCT.out (m + 1))
          have hcb := HCB.out (m + 1)
          have j1 : (m : Int) < (N : Int) := by omega
          have j2 : (0 : Int) ≤ (m : Int) := by omega
          clear hg hq hls
          generalize textI (L.take (m + 1)) = TX at *
          have htl := HCM.out
          generalize (L.take m).countP isAt = ct at *
          by_cases h0 : k = 0
          · have j3 : ¬ ((k : Int) > 0) := by omega
            have HE : Hid (lastTo L k (m + 1) = lastTo L k m) := Lib.hid (by rw [HLSM.out, if_neg]; simp; omega)
            clear h0
            go_wp2
            go_roundw
            case rel => exact ⟨m + 1, by omega, by go_num, by rw [HE.out], HQ.out⟩
            case measure => simp [intOf]; omega
          · have j3 : (k : Int) > 0 := by omega
            cases hat : isAt (tg, t, at_)
            · obtain rfl := hia.2 hat
              have HE : Hid (lastTo L k (m + 1) = lastTo L k m) := Lib.hid (by rw [HLSM.out, hat]; rfl)
              have j4 : ¬ ((-1 : Int) ≥ 0) := by decide
              clear hia hat
              go_wp2
              go_roundw
              case rel => exact ⟨m + 1, by omega, by go_num, by rw [HE.out], HQ.out⟩
              case measure => simp [intOf]; omega
            · obtain rfl := hia.1 hat
              have j4 : (ct : Int) ≥ 0 := by omega
              by_cases hck : ct < k
              · have HE : Hid (lastTo L k (m + 1) = TX.length) := Lib.hid (by rw [HLSM.out, hat, htl]; simp [hck])
                have j5 : (ct : Int) < (k : Int) := by omega
                have j6 : (0 : Int) ≤ (m : Int) + 1 := by omega
                have j7 : (m : Int) + 1 ≤ (cE : Int) := by omega
                have j8 : ((m : Int) + 1).toNat = m + 1 := by omega
                have j9 : IntKind.i64.wrap ((m : Int) + 1) = (m : Int) + 1 := by rw [IntKind.wrap_i64]; omega
                clear hia hat htl
                go_wp2_with (go_at_call 25; with_reducible refine HTM.out.mono ?_; rintro e w7 ⟨rfl, hx7⟩)
                go_roundw
                case rel => exact ⟨m + 1, by omega, by go_num, by rw [HE.out]; first | done | rfl, HQ.out.trans hx7⟩
                case measure => simp [intOf]; omega
              · have HE : Hid (lastTo L k (m + 1) = lastTo L k m) := Lib.hid (by rw [HLSM.out, hat]; simp [hck])
                have j5 : ¬ ((ct : Int) < (k : Int)) := by omega
                clear hia hat
                go_wp2
                go_roundw
                case rel => exact ⟨m + 1, by omega, by go_num, by rw [HE.out], HQ.out⟩
                case measure => simp [intOf]; omega
        · have e : m = N := by omega
          subst e
          have j1 : ¬ ((m : Int) < (m : Int)) := by omega
          have HAQ := Lib.hid (HA.out.step hq)
          have HSKK := Lib.hid (HSK.out k)
          have HRSK := Lib.hid (HRS.out k)
          have qn := (HC3.out.ext HAQ.out.ext).cell (j := 0) (v := .bool dd.neg) rfl
          have HRL := Lib.hid (Ext.range_ HAQ.out.ext HR3.out)
          have HRX := Lib.hid (HRE.out.below HAQ.out.ext (Nat.le_refl _))
          have HTA := Lib.hid (fun W hW => HTE.out W E cE na (HRX.out.below hW (Nat.le_refl _)) (by have := HN.out; omega))
          have HCA := Lib.hid (HCT.out na)
          have HXW := Lib.hid (HX3.out.trans HAQ.out.ext)
          generalize natsV ((List.range k).map (stopK L na)) = NV at *
          have hkb : k ≤ 201 := by omega
          clear hq
          by_cases h0 : k = 0
          · have HE : Hid (stopK L na k = cum L na) := Lib.hid (by rw [HSKK.out, if_pos h0])
            have j3 : ((k : Int) == 0) = true := by simp [h0]
            have j6 : (na : Int) ≤ (cE : Int) := by omega
            have j7 : (0 : Int) ≤ (na : Int) := by omega
            clear h0
            generalize textI (L.take na) = TX at *
            go_wp2_with (first
              | (refine wpList_load_mid rfl 34 (.tmp 2) rfl lb 0 rfl [.string ⟨r.name.toArray⟩, .string ⟨r.pattern.toArray⟩, .string ⟨r.system.toArray⟩, .string ⟨r.decimal.toArray⟩, .string ⟨r.group.toArray⟩, .string ⟨r.minus.toArray⟩, .string ⟨r.percent.toArray⟩, .string ⟨r.currency.toArray⟩, .slice A p.pre.length c, .slice B p.suf.length d, .slice C p.npre.length a, .slice D p.nsuf.length b, .int .i64 p.num.prim, .int .i64 p.num.sec, .int .i64 p.num.minInt, .int .i64 p.num.minFrac, .int .i64 p.num.maxFrac] _ HRL.out Tryz.underlying34 rfl infoRL ?_)
              | (go_at_call 59; with_reducible refine (HRA.out _ HXW.out).mono ?_; rintro e w8 ⟨E1, c1, F1, c2, rfl, hx8⟩)
              | (go_at_call 25; with_reducible refine (HTA.out _ hx8).mono ?_; rintro e w9 ⟨rfl, hx9⟩; have HA9 := Lib.hid (HAQ.out.step (hx8.trans hx9)))
              | (at_builtin; refine wp_app ei_int rfl (.tmp 70) (.tmp 72) rfl w3 _ G c' k _ rfl HA9.out [.int .i64 (TX.length : Int)] 1 1 rfl rfl (by simp [Value.oneCell']) (by omega) (by unfold maxLen; omega) ?_; intro A1 c1 w10 hA10 _ _))
            go_roundw
            case rel => exact ⟨k + 1, A1, c1, by omega, by go_num, rfl, by rw [HRSK.out, HE.out, ← HCA.out]; exact hA10⟩
            case measure => simp [intOf]; omega
          · have HE : Hid (stopK L na k = lastTo L k m) := Lib.hid (by rw [HSKK.out, if_neg h0, HN.out])
            have j3 : ((k : Int) == 0) = false := by simpa using h0
            go_wp2_with (at_builtin; refine wp_app ei_int rfl (.tmp 70) (.tmp 72) rfl w3 _ G c' k _ rfl HAQ.out [.int .i64 ((lastTo L k m : Nat) : Int)] 1 1 rfl rfl (by simp [Value.oneCell']) (by omega) (by unfold maxLen; omega) ?_; intro A1 c1 w10 hA10 _ _)
            go_roundw
            case rel => exact ⟨k + 1, A1, c1, by omega, by go_num, rfl, by rw [HRSK.out, HE.out]; exact hA10⟩
            case measure => simp [intOf]; omega
    · have e : k = n + 1 := by omega
      subst e
      have i1 : ¬ (((n + 1 : Nat) : Int) ≤ (n : Int)) := by omega
      have i2 : ¬ ((n : Int) + 1 ≤ (n : Int)) := by omega
      go_wp2
      go_ret
      first
        | exact ⟨G, c', by rw [HSL.out]; first | done | rfl, by rw [HSV.out]; exact HA.out.row, HX3.out.trans HA.out.ext⟩
        | exact ⟨G, ⟨c', by rw [HSL.out]; first | done | rfl⟩, by rw [HSV.out]; exact HA.out.row, HX3.out.trans HA.out.ext⟩
end Go.Proofs.YthoicieckodneaaGreatDoor.Loc
