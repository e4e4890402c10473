/- Walk: the document's items. -/
import Derived.Test.YthoicieckodneaaGreatDoorItW2
import Derived.Test.YthoicieckodneaaGreatDoorDrW2
import Derived.Test.YthoicieckodneaaGreatDoorJLocE
namespace Go.Proofs.YthoicieckodneaaGreatDoor.Loc
open Go.RowKit Utf All Small Strs Build EncC Pat Cls Dec Go.Proofs.YthoicieckodneaaGreatDoor.Sys
set_option linter.unusedVariables false
set_option linter.unusedSimpArgs false

theorem acc_apart {e sz e2 sz2 : Nat} {w0 w3 w4 : World} {E F : Option Addr} {c n c2 n2 : Nat} {cs ds : List Value} (h1 : Acc e sz w0 w3 E c n cs) (h2 : Acc e2 sz2 w3 w4 F c2 n2 ds) : Apart E F := by
  intro x y hx hy
  subst hx; subst hy
  have a := (h1.own.lt x.block rfl).2
  have b := (h2.own.lt y.block rfl).1
  omega
theorem ref_len2 (l : Loc) (d : Dr) : ∀ k, (refTo l d k).length ≤ 2 * k
  | 0 => by simp [refTo]
  | k + 1 => by
    have := ref_len2 l d k
    rw [refTo_succ, List.length_append]
    have hg : (grpAt l ((d.int.length : Int) - 1 - k)).length ≤ 1 := by unfold grpAt; split <;> simp
    unfold refAt
    split
    · simp only [List.length_cons, List.length_nil]; omega
    · simp only [List.length_cons]; omega
set_option maxHeartbeats 16000000 in
set_option maxRecDepth 100000 in
theorem ref15_items (A B C D X Y : Option Addr) (c d a b cx cy : Nat) (dr : Dr) (r : Rec) (p : Pt) (w : World) (hK : Both r p) (hn : 0 ≤ p.num.prim ∧ p.num.prim ≤ 100 ∧ 0 ≤ p.num.sec ∧ p.num.sec ≤ 100)
    (hpt : PtR w A B C D p) (hcap : CapR p c d a b) (hd : DrR w X Y dr) (ox : Okc X cx) (oy : Okc Y cy) (hok : DrOk dr) (hi : dr.int.length ≤ 100) (hf : dr.frac.length ≤ 100) :
    Calls Tryz.prog 21 #[.agg (refLV A B C D c d a b r p).toArray, .agg (drV X cx Y cy dr).toArray] w fun e w' => ∃ E c', e = .returned (.slice E (itemsF (locOf r p) dr).length c') ∧ Acc 103 3 w w' E c' (itemsF (locOf r p) dr).length (itsV (itemsF (locOf r p) dr)) := by
  have hpb : ∀ q ∈ affs (locOf r p), q.length ≤ 1000 := hK.may.b.len
  have hla : (ahead (locOf r p) dr.neg).length ≤ 1000 := Nat.le_trans (parts_len _ _) (by cases dr.neg; exact hpb _ (by simp [affs]); exact hpb _ (by simp [affs]))
  have hlb : (behind (locOf r p) dr.neg).length ≤ 1000 := Nat.le_trans (parts_len _ _) (by cases dr.neg; exact hpb _ (by simp [affs]); exact hpb _ (by simp [affs]))
  have HRA : Hid (∀ W, Ext w W → Calls Tryz.prog 59 #[.agg ([.string ⟨r.name.toArray⟩, .string ⟨r.pattern.toArray⟩, .string ⟨r.system.toArray⟩, .string ⟨r.decimal.toArray⟩, .string ⟨r.group.toArray⟩, .string ⟨r.minus.toArray⟩, .string ⟨r.percent.toArray⟩, .string ⟨r.currency.toArray⟩, .slice A p.pre.length c, .slice B p.suf.length d, .slice C p.npre.length a, .slice D p.nsuf.length b, .int .i64 p.num.prim, .int .i64 p.num.sec, .int .i64 p.num.minInt, .int .i64 p.num.minFrac, .int .i64 p.num.maxFrac] : List Value).toArray, .bool dr.neg] W fun e w' => ∃ E c1 F c2, e = .returned (.tuple #[.slice E (ahead (locOf r p) dr.neg).length c1, .slice F (behind (locOf r p) dr.neg).length c2]) ∧ Row w' E (prtV (ahead (locOf r p) dr.neg)) ∧ Row w' F (prtV (behind (locOf r p) dr.neg)) ∧ Okc E c1 ∧ Okc F c2 ∧ Ext W w') := Lib.hid fun W hW => ref_around A B C D c d a b dr.neg r p W hK (hpt.ext hW) hcap
  have HPA : Hid (∀ W X n k0 ps, Row W X (prtV ps) → ps.length = n → n ≤ 2000 → Calls Tryz.prog 60 #[.agg ([.string ⟨r.name.toArray⟩, .string ⟨r.pattern.toArray⟩, .string ⟨r.system.toArray⟩, .string ⟨r.decimal.toArray⟩, .string ⟨r.group.toArray⟩, .string ⟨r.minus.toArray⟩, .string ⟨r.percent.toArray⟩, .string ⟨r.currency.toArray⟩, .slice A p.pre.length c, .slice B p.suf.length d, .slice C p.npre.length a, .slice D p.nsuf.length b, .int .i64 p.num.prim, .int .i64 p.num.sec, .int .i64 p.num.minInt, .int .i64 p.num.minFrac, .int .i64 p.num.maxFrac] : List Value).toArray, .slice X n k0] W fun e w' => ∃ E c', e = .returned (.slice E n c') ∧ Acc 103 3 W w' E c' n (itsV (ps.map (prtI r)))) := Lib.hid fun W X n k0 ps hX hps hle => ref15_parts A B C D X c d a b n k0 ps r p W hX hps hle
  have HAT : Hid (∀ W, Ext w W → Calls Tryz.prog 18 #[.agg ([.bool dr.neg, .slice X dr.int.length cx, .bool dr.sep, .slice Y dr.frac.length cy] : List Value).toArray] W fun e w' => ∃ E c', e = .returned (.slice E (atomsF dr).length c') ∧ Acc 3 1 W w' E c' (atomsF dr).length ((atomsF dr).map (Value.int .i64))) := Lib.hid fun W hW => ref14_atoms X Y cx cy dr W (hd.ext hW) ox oy hi hf
  have HAB : Hid (∀ k, k < (atomsF dr).length → atomAt dr k = 10 ∨ (0 ≤ atomAt dr k ∧ atomAt dr k ≤ 9)) := Lib.hid fun k hk => atom_bd hok hk
  have HAD : Hid (∀ k, (atomsF dr).getD k 0 = atomAt dr k) := Lib.hid fun k => rfl
  have HDG : Hid (∀ x : Int, 0 ≤ x → x ≤ 9 → ∀ W, Calls Tryz.prog 56 #[.string ⟨r.system.toArray⟩, .int .i64 x] W fun e w' => e = .returned (.string ⟨(digZ (locOf r p) x).toArray⟩) ∧ Ext W w') := Lib.hid fun x h0 h9 W => by
    obtain ⟨n, rfl⟩ := Int.eq_ofNat_of_zero_le h0
    have h := ref_digit ⟨r.system.toArray⟩ (n : Int) W h0 h9
    rw [← dig_k hK (show n < 10 by omega)] at h
    exact h
  have HS : Hid (∀ k, refTo (locOf r p) dr (k + 1) = refTo (locOf r p) dr k ++ (if atomAt dr k = 10 then [(4, r.decimal, (k : Int))] else (2, digZ (locOf r p) (atomAt dr k), (k : Int)) :: (if Ends.itemEnds ((dr.int.length : Int) - 1 - k) p.num.prim p.num.sec then [(3, r.group, -1)] else []))) := Lib.hid fun k => refTo_succ _ _ k
  have HS0 : Hid (refTo (locOf r p) dr 0 = []) := Lib.hid rfl
  have HL2 : Hid (∀ k, (refTo (locOf r p) dr k).length ≤ 2 * k) := Lib.hid fun k => ref_len2 _ _ k
  have hal : (atomsF dr).length ≤ 201 := by rw [atoms_len]; split <;> omega
  have HIT : Hid (itemsF (locOf r p) dr = ((ahead (locOf r p) dr.neg).map (prtI r) ++ refTo (locOf r p) dr (atomsF dr).length) ++ (behind (locOf r p) dr.neg).map (prtI r)) := Lib.hid (by unfold itemsF; rw [← ref_mid hok, List.append_assoc]; rfl)
  have b1 := (Box.new w 34 (refLV A B C D c d a b r p)).alloc (.cells (drV X cx Y cy dr).toArray 26)
  have c1 := Box.new (w.alloc (.cells (refLV A B C D c d a b r p).toArray 34)) 26 (drV X cx Y cy dr)
  have hs1 : (w.alloc (.cells (refLV A B C D c d a b r p).toArray 34)).heap.size = w.heap.size + 1 := by simp
  rw [hs1] at c1
  have hx1 : Ext w ((w.alloc (.cells (refLV A B C D c d a b r p).toArray 34)).alloc (.cells (drV X cx Y cy dr).toArray 26)) := Ext.alloc_ (Ext.alloc_ (Ext.refl w) _) _
  have HB1 := Lib.hid b1
  have HC1 := Lib.hid c1
  have HX1 := Lib.hid hx1
  have HR1 : Hid (((w.alloc (.cells (refLV A B C D c d a b r p).toArray 34)).alloc (.cells (drV X cx Y cy dr).toArray 26)).rangeAt w.heap.size 0 [.string ⟨r.name.toArray⟩, .string ⟨r.pattern.toArray⟩, .string ⟨r.system.toArray⟩, .string ⟨r.decimal.toArray⟩, .string ⟨r.group.toArray⟩, .string ⟨r.minus.toArray⟩, .string ⟨r.percent.toArray⟩, .string ⟨r.currency.toArray⟩, .slice A p.pre.length c, .slice B p.suf.length d, .slice C p.npre.length a, .slice D p.nsuf.length b, .int .i64 p.num.prim, .int .i64 p.num.sec, .int .i64 p.num.minInt, .int .i64 p.num.minFrac, .int .i64 p.num.maxFrac]) := Lib.hid b1.range
  have HD1 : Hid (((w.alloc (.cells (refLV A B C D c d a b r p).toArray 34)).alloc (.cells (drV X cx Y cy dr).toArray 26)).rangeAt (w.heap.size + 1) 0 [.bool dr.neg, .slice X dr.int.length cx, .bool dr.sep, .slice Y dr.frac.length cy]) := Lib.hid c1.range
  have k0 := c1.cell (j := 0) (v := .bool dr.neg) rfl
  clear b1 c1 hs1 hx1 hpb hpt hcap hd
  go_enter Tryz.func21, Tryz.ntmps21
  go_upto_region 1 with fail
  change Code.wp _ _ _ _ ((w.alloc (.cells (refLV A B C D c d a b r p).toArray 34)).alloc (.cells (drV X cx Y cy dr).toArray 26))
  generalize (w.alloc (.cells (refLV A B C D c d a b r p).toArray 34)).alloc (.cells (drV X cx Y cy dr).toArray 26) = w1 at *
  generalize hlbd : w.heap.size = lb at *
  clear hlbd
  generalize HT : itemsF (locOf r p) dr = IT at *
  have HTT := Lib.hid HT
  clear HT
  generalize ahead (locOf r p) dr.neg = PA at *
  generalize behind (locOf r p) dr.neg = PB at *
  generalize hnat : (atomsF dr).length = na at *
  have HNA := Lib.hid hnat
  clear hnat
  go_upto_region 4 with (first
    | (refine wpList_load_mid rfl 34 (.tmp 2) rfl lb 0 rfl [.string ⟨r.name.toArray⟩, .string ⟨r.pattern.toArray⟩, .string ⟨r.system.toArray⟩, .string ⟨r.decimal.toArray⟩, .string ⟨r.group.toArray⟩, .string ⟨r.minus.toArray⟩, .string ⟨r.percent.toArray⟩, .string ⟨r.currency.toArray⟩, .slice A p.pre.length c, .slice B p.suf.length d, .slice C p.npre.length a, .slice D p.nsuf.length b, .int .i64 p.num.prim, .int .i64 p.num.sec, .int .i64 p.num.minInt, .int .i64 p.num.minFrac, .int .i64 p.num.maxFrac] _ HR1.out Tryz.underlying34 rfl infoRL ?_)
    | (go_at_call 59; with_reducible refine (HRA.out _ HX1.out).mono ?_; rintro e w2 ⟨E1, c1, F1, c2, rfl, hE1, hF1, oE1, oF1, hx2⟩; have HR2 := Lib.hid (Ext.range_ hx2 HR1.out))
    | (refine wpList_load_mid rfl 34 (.tmp 2) rfl lb 0 rfl [.string ⟨r.name.toArray⟩, .string ⟨r.pattern.toArray⟩, .string ⟨r.system.toArray⟩, .string ⟨r.decimal.toArray⟩, .string ⟨r.group.toArray⟩, .string ⟨r.minus.toArray⟩, .string ⟨r.percent.toArray⟩, .string ⟨r.currency.toArray⟩, .slice A p.pre.length c, .slice B p.suf.length d, .slice C p.npre.length a, .slice D p.nsuf.length b, .int .i64 p.num.prim, .int .i64 p.num.sec, .int .i64 p.num.minInt, .int .i64 p.num.minFrac, .int .i64 p.num.maxFrac] _ HR2.out Tryz.underlying34 rfl infoRL ?_)
    | (go_at_call 60; with_reducible refine (HPA.out _ _ _ _ PA hE1 rfl (by omega)).mono ?_; rintro e w3 ⟨E3, c3, rfl, hA3⟩; have HD3 := Lib.hid (Ext.range_ (hx2.trans hA3.ext) HD1.out))
    | (refine wpList_load_mid rfl 26 (.tmp 3) rfl (lb + 1) 0 rfl [.bool dr.neg, .slice X dr.int.length cx, .bool dr.sep, .slice Y dr.frac.length cy] _ HD3.out Tryz.underlying26 rfl infoD14 ?_)
    | (go_at_call 18; with_reducible refine (HAT.out _ (HX1.out.trans (hx2.trans hA3.ext))).mono ?_; rintro e w4 ⟨F, cF, rfl, hA4⟩))
  have hap4 := acc_apart hA3 hA4
  have HE4 := Lib.hid (hA3.step hA4.ext)
  have HF4 := Lib.hid (hA4.base hA3.ext)
  have HP4 := Lib.hid hap4
  have HPB := Lib.hid hF1
  have HX2 := Lib.hid (HX1.out.trans hx2)
  have HR2 := Lib.hid (Ext.range_ hx2 HR1.out)
  have HB2 := Lib.hid (HB1.out.ext hx2)
  have HC2 := Lib.hid (HC1.out.ext hx2)
  clear hE1 hF1 oE1 oF1 hx2 hA3 hA4 hap4 HRA HAT HD3 k0 HR1 HD1 HB1 HC1
  generalize hPV : PA.map (prtI r) = PV at *
  have HPL : Hid (PV.length = PA.length) := Lib.hid (by rw [← hPV, List.length_map])
  clear hPV
  generalize PA.length = npa at *
  go_upto_region 5 with fail
  go_wp2
  go_loopw [7, 9] (fun v i wr => ∃ (k : Nat) (E : Option Addr) (c' m : Nat), k ≤ na ∧ i = .int .i64 k ∧ v = .slice E m c' ∧ m = npa + (refTo (locOf r p) dr k).length ∧ Acc 103 3 w2 wr E c' m (itsV (PV ++ refTo (locOf r p) dr k)) ∧ Acc 3 1 w2 wr F cF na ((atomsF dr).map (Value.int .i64)) ∧ Apart E F) (fun _ i _ => na - (intOf i).toNat)
  case atStart => exact ⟨0, E3, c3, npa, Nat.zero_le _, rfl, rfl, by rw [HS0.out]; rfl, by rw [HS0.out, List.append_nil]; exact HE4.out, HF4.out, HP4.out⟩
  case round =>
    obtain ⟨k, E, c', m, hk, rfl, rfl, hm, haE, haF, hap⟩ := hrel
    have hml := HL2.out k
    have hm2 : m ≤ 2000 := by omega
    have HE := Lib.hid haE
    have HF := Lib.hid haF
    have HP := Lib.hid hap
    have HM := Lib.hid hm
    clear hap hm
    by_cases hlt : k < na
    · have hka : k < (atomsF dr).length := by have := HNA.out; omega
      have HKA := Lib.hid hka
      have hab := HAB.out k (by omega)
      obtain ⟨fb, fo, rfl, hc⟩ := row_ints haF.row hka
      rw [HAD.out] at hc
      have HXK : Hid ((atomsF dr).getD k 0 = atomAt dr k) := Lib.hid (HAD.out k)
      have HSk := Lib.hid (HS.out k)
      have hb1 := HB2.out.ext haE.ext
      have q2 := hb1.cell (j := 2) (v := .string ⟨r.system.toArray⟩) rfl
      have q3 := hb1.cell (j := 3) (v := .string ⟨r.decimal.toArray⟩) rfl
      have i1 : (k : Int) < (na : Int) := by omega
      have i2 : (0 : Int) ≤ (k : Int) := by omega
      generalize atomAt dr k = x at *
      clear haE haF hb1 hka
      by_cases h10 : x = 10
      · subst h10
        have HS2 : Hid (itsV (PV ++ refTo (locOf r p) dr (k + 1)) = itsV (PV ++ refTo (locOf r p) dr k) ++ [.int .i64 4, .string ⟨r.decimal.toArray⟩, .int .i64 k] ∧ m + 1 = npa + (refTo (locOf r p) dr (k + 1)).length) := Lib.hid (by
          rw [HSk.out, if_pos rfl, ← List.append_assoc, its_app, List.length_append]
          exact ⟨rfl, by have := HM.out; simp; omega⟩)
        have b10 : ((10 : Int) == 10) = true := rfl
        clear hab
        go_wp2_with (at_builtin; refine wp_app ei_ri rfl (.tmp 33) (.tmp 39) rfl w2 _ E c' m _ rfl HE.out [.int .i64 4, .string ⟨r.decimal.toArray⟩, .int .i64 k] 1 1 rfl rfl (by simp [Value.oneCell']) (by omega) (by unfold maxLen; omega) ?_; intro A1 c1 w5 hA5 hB5 _; obtain ⟨hF5, hP5⟩ := hB5 _ _ _ _ _ _ HF.out HP.out)
        exact ⟨⟨k + 1, A1, c1, m + 1, by omega, by go_num, rfl, HS2.out.2, by rw [HS2.out.1]; exact hA5, hF5, hP5⟩, by simp [intOf]; omega⟩
      · have hxb : 0 ≤ x ∧ x ≤ 9 := by
          rcases hab with h | h
          · exact absurd h h10
          · exact h
        have HDX := Lib.hid (HDG.out x hxb.1 hxb.2)
        have b10 : (x == 10) = false := by simpa using h10
        have HSE : Hid (refTo (locOf r p) dr (k + 1) = refTo (locOf r p) dr k ++ (2, digZ (locOf r p) x, (k : Int)) :: (if Ends.itemEnds ((dr.int.length : Int) - 1 - k) p.num.prim p.num.sec then [(3, r.group, -1)] else [])) := Lib.hid (by rw [HSk.out, if_neg h10])
        generalize digZ (locOf r p) x = dt at *
        clear hab h10 hxb HSk
        go_upto_region 9 with fail
        refine wp_region_noPanic ?_
        refine wp_region_held_drew (S := fun W => Ext w2 W ∧ W.cell? ⟨lb, 2, none⟩ = some (.string ⟨r.system.toArray⟩) ∧ W.cell? ⟨fb, fo + k, none⟩ = some (.int .i64 x)) (by kernel_rfl) ?_ (fun hHeld => ?_)
        · exact ⟨Ext.drew_ HE.out.ext, q2, hc⟩
        refine take_ 0 (v := ?_) rfl (by kernel_rfl) (by kernel_rfl) (by kernel_rfl) (fun _ _ _ h => h) hHeld (by rfl) ?_ ?_
        rotate_left 1
        · (intro w hSw; (try dsimp only at hSw); go_simp; all_goals with_reducible rfl)
        try simp only [Act.put, List.setIfInBounds_toArray, List.set_cons_zero, List.set_cons_succ]
        refine take_ 1 (v := ?_) rfl (by kernel_rfl) (by kernel_rfl) (by kernel_rfl) (fun _ _ _ h => h) hHeld (by rfl) ?_ ?_
        rotate_left 1
        · (intro w hSw; (try dsimp only at hSw); go_simp; all_goals with_reducible rfl)
        try simp only [Act.put, List.setIfInBounds_toArray, List.set_cons_zero, List.set_cons_succ]
        refine take_ 2 (v := ?_) rfl (by kernel_rfl) (by kernel_rfl) (by kernel_rfl) (fun _ _ _ h => h) hHeld (by rfl) ?_ ?_
        rotate_left 1
        · (intro w hSw; (try dsimp only at hSw); go_simp; all_goals with_reducible rfl)
        try simp only [Act.put, List.setIfInBounds_toArray, List.set_cons_zero, List.set_cons_succ]
        refine take_ 3 (v := ?_) rfl (by kernel_rfl) (by kernel_rfl) (by kernel_rfl) (fun _ _ _ h => h) hHeld (by rfl) ?_ ?_
        rotate_left 1
        · (intro w hSw; (try dsimp only at hSw); go_simp; all_goals with_reducible rfl)
        try simp only [Act.put, List.setIfInBounds_toArray, List.set_cons_zero, List.set_cons_succ]
        refine take_ 4 (v := ?_) rfl (by kernel_rfl) (by kernel_rfl) (by kernel_rfl) (fun _ _ _ h => h) hHeld (by rfl) ?_ ?_
        rotate_left 1
        · (intro w hSw; (try dsimp only at hSw); go_simp; all_goals with_reducible rfl)
        try simp only [Act.put, List.setIfInBounds_toArray, List.set_cons_zero, List.set_cons_succ]
        refine take_ 5 (v := ?_) rfl (by kernel_rfl) (by kernel_rfl) (by kernel_rfl) (fun _ _ _ h => h) hHeld (by rfl) ?_ ?_
        rotate_left 1
        · (intro w hSw; (try dsimp only at hSw); go_simp; all_goals with_reducible rfl)
        try simp only [Act.put, List.setIfInBounds_toArray, List.set_cons_zero, List.set_cons_succ]
        refine take_ 6 (v := ?_) rfl (by kernel_rfl) (by kernel_rfl) (by kernel_rfl) (fun _ _ _ h => h) hHeld (by rfl) ?_ ?_
        rotate_left 1
        · (intro w hSw; (try dsimp only at hSw); go_simp; all_goals with_reducible rfl)
        try simp only [Act.put, List.setIfInBounds_toArray, List.set_cons_zero, List.set_cons_succ]
        refine take_ 7 (v := ?_) rfl (by kernel_rfl) (by kernel_rfl) (by kernel_rfl) (fun _ _ _ h => h) hHeld (by rfl) ?_ ?_
        rotate_left 1
        · (intro w hSw; (try dsimp only at hSw); go_simp; all_goals with_reducible rfl)
        try simp only [Act.put, List.setIfInBounds_toArray, List.set_cons_zero, List.set_cons_succ]
        refine take_ 9 (v := ?_) rfl (by kernel_rfl) (by kernel_rfl) (by kernel_rfl) (fun _ _ _ h => h) hHeld (by rfl) ?_ ?_
        rotate_left 1
        · (intro w hSw; (try dsimp only at hSw); go_simp; all_goals with_reducible rfl)
        try simp only [Act.put, List.setIfInBounds_toArray, List.set_cons_zero, List.set_cons_succ]
        refine only_ 8 rfl (by kernel_rfl) (fun K1 hK1 => ?_)
        go_simp
        go_at_call 56
        refine (HDX.out _).mono ?_
        rintro e w7 ⟨rfl, hx7⟩
        have hE7 := HE.out.drew.step hx7
        have hF7 := HF.out.drew.step hx7
        refine hK1.out _ _ (⟨hHeld.1.trans hx7, Ext.cell_ hx7 hHeld.2.1, Ext.cell_ hx7 hHeld.2.2⟩) (fun hHeld => ?_)
        clear hK1
        try simp only [Act.put, List.setIfInBounds_toArray, List.set_cons_zero, List.set_cons_succ]
        refine take_ 10 (v := ?_) rfl (by kernel_rfl) (by kernel_rfl) (by kernel_rfl) (fun _ _ _ h => h) hHeld (by rfl) ?_ ?_
        rotate_left 1
        · (intro w hSw; (try dsimp only at hSw); go_simp; all_goals with_reducible rfl)
        try simp only [Act.put, List.setIfInBounds_toArray, List.set_cons_zero, List.set_cons_succ]
        refine only_ 11 rfl (by kernel_rfl) (fun K1 hK1 => ?_)
        go_simp
        have hx8 : Ext w7 (w7.alloc (.cells ([.int .i64 2, .string ⟨dt.toArray⟩, .int .i64 k] : List Value).toArray 103)) := Ext.alloc_ (Ext.refl _) _
        refine hK1.out _ _ (⟨hHeld.1.trans hx8, Ext.cell_ hx8 hHeld.2.1, Ext.cell_ hx8 hHeld.2.2⟩) (fun hHeld => ?_)
        clear hK1
        try simp only [Act.put, List.setIfInBounds_toArray, List.set_cons_zero, List.set_cons_succ]
        refine only_ 12 rfl (by kernel_rfl) (fun K1 hK1 => ?_)
        refine step_app ei_ri rfl (.tmp 41) (.tmp 52) rfl w2 w7 E c' m _ (by simp [Act.eval, Act.put]) hE7 [.int .i64 2, .string ⟨dt.toArray⟩, .int .i64 k] 1 1 (by simp [Act.eval, Act.put]) rfl (by simp [Value.oneCell']) (by omega) (by unfold maxLen; omega) ?_
        intro A9 c9 w9 hA9 hB9 _
        obtain ⟨hF9, hP9⟩ := hB9 _ _ _ _ _ _ hF7 HP.out
        refine hK1.out _ _ (⟨hA9.ext, (HB2.out.ext hA9.ext).cell (j := 2) rfl, by rw [← HXK.out]; exact row_cell hF9.row HKA.out⟩) (fun hHeld => ?_)
        clear hK1
        try simp only [Act.put, List.setIfInBounds_toArray, List.set_cons_zero, List.set_cons_succ]
        refine take_ 13 (v := ?_) rfl (by kernel_rfl) (by kernel_rfl) (by kernel_rfl) (fun _ _ _ h => h) hHeld (by rfl) ?_ ?_
        rotate_left 1
        · (intro w hSw; (try dsimp only at hSw); go_simp; all_goals with_reducible rfl)
        try simp only [Act.put, List.setIfInBounds_toArray, List.set_cons_zero, List.set_cons_succ]
        refine wpAnyH_done (by kernel_rfl) ?_ _
        refine NoPanic.normal ?_
        have HA9 := Lib.hid hA9
        have HF9 := Lib.hid hF9
        have HP9 := Lib.hid hP9
        have hb9 := HB2.out.ext hA9.ext
        have q12 := hb9.cell (j := 12) (v := .int .i64 p.num.prim) rfl
        have q13 := hb9.cell (j := 13) (v := .int .i64 p.num.sec) rfl
        have q4 := hb9.cell (j := 4) (v := .string ⟨r.group.toArray⟩) rfl
        have qd := (HC2.out.ext hA9.ext).cell (j := 1) (v := .slice X dr.int.length cx) rfl
        clear hHeld hA9 hF9 hP9 hb9 hB9 hE7 hF7 q2 q3 hc hx7 hx8
        cases he : Ends.itemEnds ((dr.int.length : Int) - 1 - k) p.num.prim p.num.sec
        · have HEE := Lib.hid he
          have HS2 : Hid (itsV (PV ++ refTo (locOf r p) dr (k + 1)) = itsV (PV ++ refTo (locOf r p) dr k) ++ [.int .i64 2, .string ⟨dt.toArray⟩, .int .i64 k] ∧ m + 1 = npa + (refTo (locOf r p) dr (k + 1)).length) := Lib.hid (by
            rw [HSE.out, he, ← List.append_assoc, its_app, List.length_append]
            exact ⟨rfl, by have := HM.out; simp; omega⟩)
          clear he
          go_wp2_with (go_at_call 61; refine (Ends.ref_ends _ _ _ _ (by omega) (by omega) (by omega)).mono ?_; rintro e w10 ⟨rfl, rfl⟩; rw [HEE.out])
          go_roundw
          case rel => exact ⟨k + 1, A9, c9, m + 1, by omega, by go_num, rfl, HS2.out.2, by rw [HS2.out.1]; exact HA9.out, HF9.out, HP9.out⟩
          case measure => simp [intOf]; omega
        · have HEE := Lib.hid he
          have HS2 : Hid (itsV (PV ++ refTo (locOf r p) dr (k + 1)) = itsV (PV ++ refTo (locOf r p) dr k) ++ [.int .i64 2, .string ⟨dt.toArray⟩, .int .i64 k] ++ [.int .i64 3, .string ⟨r.group.toArray⟩, .int .i64 (-1)] ∧ m + 1 + 1 = npa + (refTo (locOf r p) dr (k + 1)).length) := Lib.hid (by
            rw [HSE.out, he, ← List.append_assoc, its_app, List.length_append]
            refine ⟨?_, by have := HM.out; simp; omega⟩
            rw [List.append_assoc]; rfl)
          clear he
          go_wp2_with (first
            | (go_at_call 61; refine (Ends.ref_ends _ _ _ _ (by omega) (by omega) (by omega)).mono ?_; rintro e w10 ⟨rfl, rfl⟩; rw [HEE.out])
            | (at_builtin; refine wp_app ei_ri rfl (.tmp 67) (.tmp 72) rfl w2 _ A9 c9 (m + 1) _ rfl HA9.out [.int .i64 3, .string ⟨r.group.toArray⟩, .int .i64 (-1)] 1 1 rfl rfl (by simp [Value.oneCell']) (by omega) (by unfold maxLen; omega) ?_; intro A11 c11 w11 hA11 hB11 _; obtain ⟨hF11, hP11⟩ := hB11 _ _ _ _ _ _ HF9.out HP9.out))
          go_roundw
          case rel => exact ⟨k + 1, A11, c11, m + 1 + 1, by omega, by go_num, rfl, HS2.out.2, by rw [HS2.out.1]; exact hA11, hF11, hP11⟩
          case measure => simp [intOf]; omega
    · have e : k = na := by omega
      subst e
      have i1 : ¬ ((k : Int) < (k : Int)) := by omega
      have HRW := Lib.hid (Ext.range_ haE.ext HR2.out)
      have hrB := HPB.out.below haE.ext (Nat.le_refl _)
      have HIT2 : Hid (IT = (PV ++ refTo (locOf r p) dr k) ++ PB.map (prtI r)) := Lib.hid HIT.out
      have HLT : Hid (IT.length = m + PB.length) := Lib.hid (by
        have h1 := haE.len
        rw [its_len] at h1
        rw [HIT2.out, List.length_append, List.length_map]; omega)
      clear haE haF
      generalize PV ++ refTo (locOf r p) dr k = T3 at *
      go_wp2_with (first
        | (refine wpList_load_mid rfl 34 (.tmp 2) rfl lb 0 rfl [.string ⟨r.name.toArray⟩, .string ⟨r.pattern.toArray⟩, .string ⟨r.system.toArray⟩, .string ⟨r.decimal.toArray⟩, .string ⟨r.group.toArray⟩, .string ⟨r.minus.toArray⟩, .string ⟨r.percent.toArray⟩, .string ⟨r.currency.toArray⟩, .slice A p.pre.length c, .slice B p.suf.length d, .slice C p.npre.length a, .slice D p.nsuf.length b, .int .i64 p.num.prim, .int .i64 p.num.sec, .int .i64 p.num.minInt, .int .i64 p.num.minFrac, .int .i64 p.num.maxFrac] _ HRW.out Tryz.underlying34 rfl infoRL ?_)
        | (go_at_call 60; with_reducible refine (HPA.out _ _ _ _ PB hrB rfl (by omega)).mono ?_; rintro e w6 ⟨F6, c6, rfl, hA6⟩; have HA6 := Lib.hid hA6; have HB6 := Lib.hid (HE.out.step hA6.ext))
        | (at_builtin; refine wp_src ei_ri rfl (.tmp 74) (.tmp 77) rfl w2 _ E c' m _ rfl HB6.out F6 PB.length c6 (itsV (PB.map (prtI r))) rfl HA6.out.row (Acc.okc HA6.out) HA6.out.len (its_oneCell _) (by omega) (by unfold maxLen; omega) ?_; intro A9 c9 w9 hA9 _))
      go_ret
      exact ⟨A9, c9, by rw [HTT.out, HLT.out]; first | done | rfl, by rw [HTT.out, HLT.out, HIT2.out, its_app]; exact hA9.base HX2.out⟩
end Go.Proofs.YthoicieckodneaaGreatDoor.Loc
