/- Walks: the document's parts of an affix; what stands ahead of a number, and behind it. -/
import Derived.Test.YtdkjkbbibdppoaaGreatDoorLRef2
namespace Go.Proofs.YtdkjkbbibdppoaaGreatDoor.Loc
open Go.RowKit Utf All Small Strs Build EncC Pat Cls Dec Go.Proofs.YtdkjkbbibdppoaaGreatDoor.Sys
set_option linter.unusedVariables false
set_option linter.unusedSimpArgs false

theorem row_sub {w : World} {X : Option Addr} {q : List Pc} {k : Nat} (h : Row w X (pcsV q)) (hk : k < q.length) : ∃ b off, X = some ⟨b, off, none⟩ ∧ Row w (some ⟨b, off + k * 2, none⟩) (pcsV [q[k]]) := by
  obtain ⟨b, off, rfl, h1, h2⟩ := row_pc h hk
  refine ⟨b, off, rfl, .inr ⟨b, off + k * 2, rfl, fun j v hv => ?_⟩⟩
  have hj : j < 2 := by have := (List.getElem?_eq_some_iff.1 hv).1; simpa [pcsV, pcV] using this
  match j, hj with
  | 0, _ => simp [pcsV, pcV] at hv; subst hv; exact h1
  | 1, _ => simp [pcsV, pcV] at hv; subst hv; exact h2
set_option maxHeartbeats 8000000 in
set_option maxRecDepth 100000 in
theorem ref_parts (A B C D X : Option Addr) (c d a b' n k0 : Nat) (q : List Pc) (r : Rec) (p : Pt) (w : World) (hb : LocB (locOf r p)) (hX : Row w X (pcsV q)) (hq : q.length = n) (hn0 : n ≤ k0) (hl : n ≤ 1000) (hk : ∀ x ∈ q, 0 ≤ x.1 ∧ x.1 < 4 ∧ x.2.length ≤ 6) :
    Calls Tryz.prog 69 #[.agg (refLV A B C D c d a b' r p).toArray, .slice X n k0] w fun e w' => ∃ E c', e = .returned (.slice E (partsF (locOf r p) q).length c') ∧ Row w' E (prtV (partsF (locOf r p) q)) ∧ Okc E c' ∧ Ext w w' := by
  have HK := Lib.hid hk
  have HLB := Lib.hid hb
  have HXR := Lib.hid hX
  have HQ := Lib.hid hq
  have HBD : Hid (∀ k, (stR (locOf r p) (q.take k)).1.length ≤ 2 * k ∧ (stR (locOf r p) (q.take k)).2.length ≤ 1000 * k) := Lib.hid fun k => by
    have h := stR_bd (locOf r p) hb (q.take k) (fun x hx => by have := (hk x (List.mem_of_mem_take hx)).2.2; omega)
    have hlk : (q.take k).length ≤ k := by rw [List.length_take]; omega
    omega
  have HALL : Hid (partsF (locOf r p) q = finR (stR (locOf r p) (q.take n))) := Lib.hid (by rw [parts_fin, List.take_of_length_le (by omega)])
  have b1 := Box.new w 61 (refLV A B C D c d a b' r p)
  have hx1 : Ext w (w.alloc (.cells (refLV A B C D c d a b' r p).toArray 61)) := Ext.alloc_ (Ext.refl w) _
  have HRG : Hid ((w.alloc (.cells (refLV A B C D c d a b' r p).toArray 61)).rangeAt w.heap.size 0 [.string ⟨r.name.toArray⟩, .string ⟨r.pattern.toArray⟩, .string ⟨r.system.toArray⟩, .string ⟨r.decimal.toArray⟩, .string ⟨r.group.toArray⟩, .string ⟨r.minus.toArray⟩, .string ⟨r.percent.toArray⟩, .string ⟨r.currency.toArray⟩]) := Lib.hid (refL_rec b1.range)
  have HX1 := Lib.hid hx1
  clear hk hb hX b1 hx1
  go_enter Tryz.func69, Tryz.ntmps69
  go_upto_region 1 with fail
  change Code.wp _ _ _ _ (w.alloc (.cells (refLV A B C D c d a b' r p).toArray 61))
  generalize w.alloc (.cells (refLV A B C D c d a b' r p).toArray 61) = w1 at *
  generalize hlb : w.heap.size = lb at *
  clear hlb
  go_wp2
  go_loopw [5, 6, 7] (fun v s i wr => ∃ (k : Nat) (E : Option Addr) (c' : Nat) (out : List Prt) (t : List UInt8), k ≤ n ∧ i = .int .i64 k ∧ v = .slice E out.length c' ∧ s = .string ⟨t.toArray⟩ ∧ Hid (stR (locOf r p) (q.take k) = (out, t)) ∧ Acc 64 2 w1 wr E c' out.length (prtV out)) (fun _ _ i _ => n - (intOf i).toNat)
  case atStart => exact ⟨0, none, 0, [], [], Nat.zero_le _, rfl, rfl, rfl, Lib.hid (by simp [stR]), Acc.start _ _ _⟩
  case round =>
    obtain ⟨k, E, c', out, t, hkn, rfl, rfl, rfl, HST, hacc⟩ := hrel
    have hbd := HBD.out k
    rw [HST.out] at hbd
    obtain ⟨hbo, hbt⟩ := hbd
    simp only at hbo hbt
    have HA := Lib.hid hacc
    by_cases hlt : k < n
    · have hkq : k < q.length := by have := HQ.out; omega
      have hwr : Ext w wr := HX1.out.trans hacc.ext
      obtain ⟨bx, ox, rfl, hc1, hc2⟩ := row_pc (HXR.out.below hwr (Nat.le_refl _)) hkq
      have HSN : Hid (stR (locOf r p) (q.take (k + 1)) = stepR (locOf r p) (out, t) q[k]) := Lib.hid (by rw [stR_snoc _ hkq, HST.out])
      have hkx := HK.out _ (List.getElem_mem hkq)
      have HSUB : Hid (∀ W, Ext wr W → Row W (some ⟨bx, ox + k * 2, none⟩) (pcsV [q[k]])) := Lib.hid fun W hW => by
        obtain ⟨b2, o2, he, hr2⟩ := row_sub (HXR.out.below (hwr.trans hW) (Nat.le_refl _)) hkq
        injection he with he; injection he with he1 he2
        subst he1; subst he2; exact hr2
      have HTB := Lib.hid (txt_one (locOf r p) HLB.out q[k] (by omega))
      have i1 : (k : Int) < (n : Int) := by omega
      clear hacc hwr
      generalize q[k] = x at *
      obtain ⟨kd, tx0⟩ := x
      simp only at hc1 hc2 hkx
      by_cases h3 : kd = 3
      · subst h3
        have hb3 : ((3 : Int) != 3) = false := rfl
        by_cases ht : t = []
        · subst ht
          have HS2 : Hid (stR (locOf r p) (q.take (k + 1)) = (out ++ [(true, [])], [])) := Lib.hid (by rw [HSN.out]; rfl)
          go_wp2_with (at_builtin; refine wp_app ei_t rfl (.tmp 37) (.tmp 39) rfl w1 _ E c' out.length _ rfl HA.out [.bool true, .string ⟨#[]⟩] 1 1 rfl rfl (by simp [Value.oneCell']) (by omega) (by unfold maxLen; omega) ?_; intro A1 c1 w5 hA5 _ _)
          exact ⟨⟨k + 1, A1, c1, out ++ [(true, [])], [], by omega, by go_num, by rw [List.length_append]; rfl, rfl, HS2, by rw [List.length_append, prt_app]; exact hA5⟩, by simp [intOf]; omega⟩
        · have HS2 : Hid (stR (locOf r p) (q.take (k + 1)) = ((out ++ [(false, t)]) ++ [(true, [])], [])) := Lib.hid (by rw [HSN.out]; unfold stepR; simp [ht])
          have hie : t.isEmpty = false := by simpa using ht
          go_wp2_with (first
            | (at_builtin; refine wp_app ei_t rfl (.tmp 32) (.tmp 35) rfl w1 _ E c' out.length _ rfl HA.out [.bool false, .string ⟨t.toArray⟩] 1 1 rfl rfl (by simp [Value.oneCell']) (by omega) (by unfold maxLen; omega) ?_; intro A1 c1 w5 hA5 _ _)
            | (at_builtin; refine wp_app ei_t rfl (.tmp 37) (.tmp 39) rfl w1 _ A1 c1 (out.length + 1) _ rfl hA5 [.bool true, .string ⟨#[]⟩] 1 1 rfl rfl (by simp [Value.oneCell']) (by omega) (by unfold maxLen; omega) ?_; intro A2 c2 w6 hA6 _ _))
          exact ⟨⟨k + 1, A2, c2, (out ++ [(false, t)]) ++ [(true, [])], [], by omega, by go_num, by rw [List.length_append, List.length_append]; rfl, rfl, HS2, by rw [List.length_append, List.length_append, prt_app, prt_app]; exact hA6⟩, by simp [intOf]; omega⟩
      · have hb3 : (kd != 3) = true := by simp [h3]
        have HS2 : Hid (stR (locOf r p) (q.take (k + 1)) = (out, t ++ txtL (locOf r p) [(kd, tx0)])) := Lib.hid (by rw [HSN.out]; unfold stepR; simp [h3])
        have HTX : Hid (∀ W, Ext wr W → Calls Tryz.prog 88 #[.agg (recV r).toArray, .slice (some ⟨bx, ox + k * 2, none⟩) 1 (k0 - k)] W fun e w' => e = .returned (.string ⟨(txtL (locOf r p) [(kd, tx0)]).toArray⟩) ∧ Ext W w') := Lib.hid fun W hW => by
          have h := ref_text (some ⟨bx, ox + k * 2, none⟩) 1 (k0 - k) [(kd, tx0)] r W (HSUB.out W hW) rfl (by decide) HLB.out.cur HLB.out.per (by simpa using hkx)
          exact h
        have htl := HTB.out
        generalize txtL (locOf r p) [(kd, tx0)] = tx at *
        have q1 : (9223372036854775807 < t.length + tx.length) = False := eq_false (by omega)
        have hap := app_mk t tx
        have j1 : IntKind.i64.wrap ((k : Int) + 1) = (k : Int) + 1 := by rw [IntKind.wrap_i64]; omega
        have j2 : (0 : Int) ≤ (k : Int) := by omega
        have j6 : (k0 = k) = False := eq_false (by omega)
        have j3 : (k : Int) ≤ (k : Int) + 1 := by omega
        have j4 : (k : Int) + 1 ≤ (k0 : Int) := by omega
        have j5 : ((k : Int) + 1).toNat = k + 1 := by omega
        have HRW := Lib.hid (Ext.range_ HA.out.ext HRG.out)
        go_upto_region 7 with fail
        refine wp_region_noPanic ?_
        refine wp_region_held_drew (S := fun W => Ext wr W ∧ W.rangeAt lb 0 [.string ⟨r.name.toArray⟩, .string ⟨r.pattern.toArray⟩, .string ⟨r.system.toArray⟩, .string ⟨r.decimal.toArray⟩, .string ⟨r.group.toArray⟩, .string ⟨r.minus.toArray⟩, .string ⟨r.percent.toArray⟩, .string ⟨r.currency.toArray⟩]) (by kernel_rfl) ?_ (fun hHeld => ?_)
        · exact ⟨Ext.drew_ (Ext.refl _), HRW.out⟩
        refine take_ 0 (v := ?_) rfl (by kernel_rfl) (by kernel_rfl) (by kernel_rfl) (fun _ _ _ h => h) hHeld (by rfl) ?_ ?_
        rotate_left 1
        · (intro w hSw; (try dsimp only at hSw); go_simp; all_goals with_reducible rfl)
        try simp only [Act.put, List.setIfInBounds_toArray, List.set_cons_zero, List.set_cons_succ]
        refine take_ 1 (v := ?_) rfl (by kernel_rfl) (by kernel_rfl) (by kernel_rfl) (fun _ _ _ h => h) hHeld (by rfl) ?_ ?_
        rotate_left 1
        · (intro w hSw; (try dsimp only at hSw); go_simp; all_goals with_reducible rfl)
        try simp only [Act.put, List.setIfInBounds_toArray, List.set_cons_zero, List.set_cons_succ]
        refine takeRow_ (cs := [.string ⟨r.name.toArray⟩, .string ⟨r.pattern.toArray⟩, .string ⟨r.system.toArray⟩, .string ⟨r.decimal.toArray⟩, .string ⟨r.group.toArray⟩, .string ⟨r.minus.toArray⟩, .string ⟨r.percent.toArray⟩, .string ⟨r.currency.toArray⟩]) 2 rfl (by kernel_rfl) (by kernel_rfl) (by kernel_rfl) (fun _ _ _ h => h) hHeld (by rfl) 45 ((.tmp 21)) rfl lb (0) rfl _ (fun _ h => h.2) Tryz.underlying45 rfl infoR ?_
        try simp only [Act.put, List.setIfInBounds_toArray, List.set_cons_zero, List.set_cons_succ]
        refine take_ 3 (v := ?_) rfl (by kernel_rfl) (by kernel_rfl) (by kernel_rfl) (fun _ _ _ h => h) hHeld (by rfl) ?_ ?_
        rotate_left 1
        · (intro w hSw; (try dsimp only at hSw); go_simp; all_goals with_reducible rfl)
        try simp only [Act.put, List.setIfInBounds_toArray, List.set_cons_zero, List.set_cons_succ]
        refine take_ 4 (v := ?_) rfl (by kernel_rfl) (by kernel_rfl) (by kernel_rfl) (fun _ _ _ h => h) hHeld (by rfl) ?_ ?_
        rotate_left 1
        · (intro w hSw; (try dsimp only at hSw); go_simp; all_goals with_reducible rfl)
        try simp only [Act.put, List.setIfInBounds_toArray, List.set_cons_zero, List.set_cons_succ]
        refine take_ 5 (v := ?_) rfl (by kernel_rfl) (by kernel_rfl) (by kernel_rfl) (fun _ _ _ h => h) hHeld (by rfl) ?_ ?_
        rotate_left 1
        · (intro w hSw; (try dsimp only at hSw); go_simp; all_goals with_reducible rfl)
        try simp only [Act.put, List.setIfInBounds_toArray, List.set_cons_zero, List.set_cons_succ]
        refine take_ 6 (v := ?_) rfl (by kernel_rfl) (by kernel_rfl) (by kernel_rfl) (fun _ _ _ h => h) hHeld (by rfl) ?_ ?_
        rotate_left 1
        · (intro w hSw; (try dsimp only at hSw); go_simp; all_goals with_reducible rfl)
        try simp only [Act.put, List.setIfInBounds_toArray, List.set_cons_zero, List.set_cons_succ]
        refine take_ 7 (v := ?_) rfl (by kernel_rfl) (by kernel_rfl) (by kernel_rfl) (fun _ _ _ h => h) hHeld (by rfl) ?_ ?_
        rotate_left 1
        · (intro w hSw; (try dsimp only at hSw); go_simp; all_goals with_reducible rfl)
        try simp only [Act.put, List.setIfInBounds_toArray, List.set_cons_zero, List.set_cons_succ]
        refine only_ 8 rfl (by kernel_rfl) (fun K1 hK1 => ?_)
        go_simp
        go_at_call 88
        refine (HTX.out _ hHeld.1).mono ?_
        rintro e w7 ⟨rfl, hx7⟩
        refine hK1.out _ _ (⟨hHeld.1.trans hx7, Ext.range_ hx7 hHeld.2⟩) (fun hHeld => ?_)
        clear hK1
        try simp only [Act.put, List.setIfInBounds_toArray, List.set_cons_zero, List.set_cons_succ]
        refine take_ 9 (v := ?_) rfl (by kernel_rfl) (by kernel_rfl) (by kernel_rfl) (fun _ _ _ h => h) hHeld (by rfl) ?_ ?_
        rotate_left 1
        · (intro w hSw; (try dsimp only at hSw); go_simp; all_goals with_reducible rfl)
        try simp only [Act.put, List.setIfInBounds_toArray, List.set_cons_zero, List.set_cons_succ]
        refine take_ 10 (v := ?_) rfl (by kernel_rfl) (by kernel_rfl) (by kernel_rfl) (fun _ _ _ h => h) hHeld (by rfl) ?_ ?_
        rotate_left 1
        · (intro w hSw; (try dsimp only at hSw); go_simp; all_goals with_reducible rfl)
        try simp only [Act.put, List.setIfInBounds_toArray, List.set_cons_zero, List.set_cons_succ]
        refine wpAnyH_done (by kernel_rfl) ?_ _
        refine NoPanic.normal ?_
        have HA7 := Lib.hid (HA.out.step hHeld.1)
        clear hHeld
        go_wp2
        go_roundw
        case rel => exact ⟨k + 1, E, c', out, t ++ tx, by omega, by go_num, rfl, by first | rfl | rw [hap], HS2, HA7.out⟩
        case measure => simp [intOf]; omega
    · have e : k = n := by omega
      subst e
      have i1 : ¬ ((k : Int) < (k : Int)) := by omega
      have HP : Hid (partsF (locOf r p) q = finR (out, t)) := Lib.hid (by rw [HALL.out, HST.out])
      by_cases ht : t = []
      · subst ht
        have HP2 : Hid (partsF (locOf r p) q = out) := Lib.hid HP.out
        go_wp2
        go_ret
        exact ⟨E, c', by rw [HP2.out]; rfl, by rw [HP2.out]; exact HA.out.row, Acc.okc HA.out, HX1.out.trans HA.out.ext⟩
      · have HP2 : Hid (partsF (locOf r p) q = out ++ [(false, t)]) := Lib.hid (by rw [HP.out]; unfold finR; simp [ht])
        have hie : t.isEmpty = false := by simpa using ht
        go_wp2_with (at_builtin; refine wp_app ei_t rfl (.tmp 43) (.tmp 46) rfl w1 _ E c' out.length _ rfl HA.out [.bool false, .string ⟨t.toArray⟩] 1 1 rfl rfl (by simp [Value.oneCell']) (by omega) (by unfold maxLen; omega) ?_; intro A1 c1 w5 hA5 _ _)
        go_ret
        exact ⟨A1, c1, by rw [HP2.out, List.length_append]; rfl, by rw [HP2.out, prt_app]; exact hA5.row, Acc.okc hA5, HX1.out.trans hA5.ext⟩
end Go.Proofs.YtdkjkbbibdppoaaGreatDoor.Loc
