/- The law PatternQuotes: a literal of whatever signs comes back. -/
import Derived.Test.YtbnlbkmihemicaaDoorPatQ
import Derived.Test.YtbnlbkmihemicaaDoorPatS
namespace Go.Proofs.YtbnlbkmihemicaaDoor.Pat
open Go.RowKit Utf All Small Strs Build EncC
set_option linter.unusedVariables false
set_option linter.unusedSimpArgs false

theorem parse_okL {l : List UInt8} {p : Pt} (hp : parseF l = .ok p) (w : World) (hs : l.length ≤ 100000000) :
    Calls Tryd.prog 14 #[.string ⟨l.toArray⟩] w fun e w' => ∃ A c B d C a D b, e = .returned (.tuple #[.agg (patC (.slice A p.pre.length c) (.slice B p.suf.length d) (.slice C p.npre.length a) (.slice D p.nsuf.length b) p.num).toArray, .int .i64 0]) ∧
      Row w' A (pcsV p.pre) ∧ Row w' B (pcsV p.suf) ∧ Row w' C (pcsV p.npre) ∧ Row w' D (pcsV p.nsuf) ∧ Okc A c ∧ Okc B d ∧ Okc C a ∧ Okc D b ∧ Ext w w' :=
  parse_ok (s := ⟨l.toArray⟩) hp w hs
theorem encs_len : ∀ (l : List Int), (∀ x ∈ l, mayC x = true) → (l.flatMap encB).length ≤ 4 * l.length
  | [], _ => by simp
  | c :: l, h => by
    have := encs_len l fun x hx => h x (by simp [hx])
    have h2 := (encB_len (h c (by simp))).2
    rw [List.flatMap_cons, List.length_append, List.length_cons]; omega
theorem dblC_len (l : List Int) : (dblC l).length ≤ 2 * l.length := by
  induction l with
  | nil => simp [dblC]
  | cons c l ih => rw [dblC_cons, List.length_append, List.length_cons]; split <;> simp <;> omega
theorem text_snoc {cs : List Int} {k : Nat} (hk : k < cs.length) : (cs.take (k + 1)).flatMap encB = (cs.take k).flatMap encB ++ encB cs[k] := by
  rw [List.take_succ_eq_append_getElem hk, List.flatMap_append]; simp
theorem quoted_snoc {cs : List Int} {k : Nat} (hk : k < cs.length) : (dblC (cs.take (k + 1))).flatMap encB = (dblC (cs.take k)).flatMap encB ++ (if cs[k] = 39 then [39, 39] else encB cs[k]) := by
  rw [List.take_succ_eq_append_getElem hk]
  unfold dblC
  rw [List.flatMap_append, List.flatMap_append]
  congr 1
  simp only [List.flatMap_cons, List.flatMap_nil, List.append_nil]
  split
  · simp [enc_39]
  · simp
theorem other_snoc {cs : List Int} {k : Nat} (hk : k < cs.length) : (cs.take (k + 1)).any (· != 39) = ((cs.take k).any (· != 39) || (cs[k] != 39)) := by
  rw [List.take_succ_eq_append_getElem hk, List.any_append]; simp
theorem wrap_mk (l : List UInt8) : (⟨#[39]⟩ : ByteArray) ++ ⟨l.toArray⟩ ++ ⟨#[39, 35]⟩ = ⟨(39 :: l ++ [39, 35]).toArray⟩ := by
  refine bytes_ext ?_
  simp
set_option maxHeartbeats 2000000 in
set_option maxRecDepth 100000 in
theorem law_PatternQuotes (s : ByteArray) (w : World) (hs : s.size ≤ maxLen) (h0 : 0 < w.heap.size) (HM : ∃ m, w.cell? ⟨0, 0, none⟩ = some (.int .i64 m)) :
    Calls Tryd.prog 6 #[.string s] w fun e w' => e = .returned (.bool true) ∧ Below w.heap.size w w' := by
  have hfs := fewB_size s 12
  have hcl := chars_len (fewB s 12)
  have hmay := charsL_may (fewB s 12).data.toList
  go_enter Tryd.func6, Tryd.ntmps6
  go_wp2_with fail
  refine (few s 12 w hs (by decide)).mono ?_; rintro e w' ⟨rfl, rfl⟩
  go_wp2_with fail
  refine (ref_all (fewB s 12) w (by omega)).mono ?_; rintro e w1 ⟨X, cX, Y, cY, rfl, hrow, hrow2, hx⟩
  have hn : (charsL (fewB s 12).data.toList).length ≤ 12 := by omega
  clear hrow2 hcl hfs
  generalize charsL (fewB s 12).data.toList = cs at *
  generalize (startsL (fewB s 12).data.toList).length = ny
  generalize validL (fewB s 12).data.toList = vy
  have HMAY := Lib.hid hmay
  have HX := Lib.hid hx
  clear hmay hx
  go_wp2
  go_loopw [6, 7, 8, 9, 10] (fun t q o i _ wr => ∃ k : Nat, k ≤ cs.length ∧ i = .int .i64 k ∧ t = .string ⟨((cs.take k).flatMap encB).toArray⟩ ∧ q = .string ⟨((dblC (cs.take k)).flatMap encB).toArray⟩ ∧ o = .bool ((cs.take k).any (· != 39)) ∧ Ext w1 wr) (fun _ _ _ i _ _ => cs.length - (intOf i).toNat)
  case atStart => exact ⟨0, Nat.zero_le _, rfl, rfl, rfl, rfl, Ext.refl _⟩
  case round =>
    obtain ⟨k, hk, rfl, rfl, rfl, rfl, hxr⟩ := hrel
    have hmt : ∀ x ∈ cs.take k, mayC x = true := fun x hx => HMAY.out x (List.mem_of_mem_take hx)
    have hl1 := encs_len _ hmt
    have hl2 := encs_len _ (may_dbl hmt)
    have hl3 := dblC_len (cs.take k)
    rw [List.length_take_of_le hk] at hl1 hl3
    clear hmt
    by_cases hlt : k < cs.length
    · obtain ⟨bX, oX, rfl, hc⟩ := row_int (hrow.below hxr (Nat.le_refl _)) hlt
      have hm := HMAY.out _ (List.getElem_mem hlt)
      have HT := Lib.hid (text_snoc hlt)
      have HQ := Lib.hid (quoted_snoc hlt)
      have HO := Lib.hid (other_snoc hlt)
      generalize cs[k] = v at *
      have hel := (encB_len hm).2
      clear hm
      have HXR := Lib.hid hxr
      clear hxr
      generalize (cs.take k).flatMap encB = tx at *
      generalize (dblC (cs.take k)).flatMap encB = qx at *
      generalize (cs.take k).any (· != 39) = ox at *
      by_cases hq : v = 39
      · subst hq
        have hc' : ∀ W, Ext wr W → W.cell? ⟨bX, oX + k, none⟩ = some (.int .i64 39) := fun W hW => Ext.cell_ hW hc
        go_wp2_with fail
        refine (ref_encode 39 _).mono ?_; rintro e w2 ⟨rfl, hx2⟩
        have hc2 := hc' w2 hx2
        go_wp2
        refine ⟨?_, by simp [intOf]; omega⟩
        exact ⟨k + 1, by omega, by go_num, by rw [HT.out, app_mk], by rw [HQ.out, if_pos True.intro, show (⟨#[39, 39]⟩ : ByteArray) = ⟨([39, 39] : List UInt8).toArray⟩ from rfl, app_mk], by rw [HO.out]; simp, HXR.out.trans hx2⟩
      · have hqb : (v == 39) = false := by simpa using hq
        have HV : Hid ((if v = 39 then [39, 39] else encB v) = encB v) := Lib.hid (if_neg hq)
        have hqn : Hid ((v != 39) = true) := Lib.hid (by simpa using hq)
        clear hq
        have hc' : ∀ W, Ext wr W → W.cell? ⟨bX, oX + k, none⟩ = some (.int .i64 v) := fun W hW => Ext.cell_ hW hc
        go_wp2_with fail
        refine (ref_encode v _).mono ?_; rintro e w2 ⟨rfl, hx2⟩
        have hc2 := hc' w2 hx2
        go_wp2
        refine ⟨?_, by simp [intOf]; omega⟩
        exact ⟨k + 1, by omega, by go_num, by rw [HT.out, app_mk], by rw [HQ.out, HV.out, app_mk], by rw [HO.out, hqn.out, Bool.or_true], HXR.out.trans hx2⟩
    · have e : k = cs.length := by omega
      subst e
      rw [List.take_length] at hl1 hl2 hl3
      rw [List.take_length]
      have hxw : Ext w wr := HX.out.trans hxr
      have HMr : ∀ W, Ext wr W → ∃ m, W.cell? ⟨0, 0, none⟩ = some (.int .i64 m) := fun W hW => by
        obtain ⟨m, hm⟩ := HM
        exact ⟨m, Ext.cell_ (hxw.trans hW) hm⟩
      have hpr : ∀ W, Ext wr W → 0 < W.heap.size := fun W hW => by have := hxw.size; have := hW.size; omega
      have HMR := Lib.hid HMr
      have HPR := Lib.hid hpr
      have HXW := Lib.hid hxw
      clear HMr hpr hxw hxr
      cases ho : cs.any (· != 39)
      · go_wp2_with fail
        refine (lives_ wr (HPR.out _ (Ext.refl _)) (HMR.out _ (Ext.refl _))).mono ?_; rintro e w5 ⟨rfl, hx5⟩
        go_wp2
        go_ret
        exact ⟨rfl, HXW.out.trans hx5⟩
      · have hcs : cs ≠ [] := by rintro rfl; simp at ho
        have HF := Lib.hid (quote_first cs HMAY.out ho)
        have HB := Lib.hid (quote_back cs HMAY.out hcs)
        have hte : (cs.flatMap encB).length ≤ 100000 := by omega
        have HRS : Hid (resF [99] [112] [109] (quotePt cs).pre = cs.flatMap encB) := Lib.hid (by simp [resF, quotePt])
        have hp1 : ∀ x ∈ (quotePt cs).pre, x.1 = 0 ∧ x.2.length ≤ 100000 := by intro x hx; simp [quotePt] at hx; subst hx; exact ⟨rfl, hte⟩
        have hp2 : ∀ x ∈ (quotePt cs).suf, x.1 = 0 ∧ x.2.length ≤ 100000 := by intro x hx; simp [quotePt] at hx
        have hp3 : ∀ x ∈ (quotePt cs).pre, x.2.length ≤ 100000 := fun x hx => (hp1 x hx).2
        have hpl : (printF (quotePt cs).pre (quotePt cs).suf 0).length ≤ 10000000 := by
          have e1 : (litF (quotePt cs).pre).length ≤ 800002 * 1 := litF_len _ hp1
          have e2 : (litF (quotePt cs).suf).length = 0 := rfl
          have e3 := sigB_len 0
          unfold printF
          rw [List.length_append, List.length_append]
          omega
        have HP1 := Lib.hid hp1
        have HP2 := Lib.hid hp2
        have HP3 := Lib.hid hp3
        have HCS := Lib.hid hcs
        have hql : ((dblC cs).flatMap encB).length ≤ 1000 := by omega
        clear hp1 hp2 hp3 ho hcs hl1 hl2 hl3
        generalize (dblC cs).flatMap encB = qx at *
        generalize cs.flatMap encB = tx at *
        go_wp2_with fail
        rw [wrap_mk]
        refine (parse_okL HF.out _ (by simp; omega)).mono ?_
        rintro e w1' ⟨A, c, B, d, C, a, D, b, rfl, hA, hB, hC, hD, oA, oB, oC, oD, hx1⟩
        have hn1 := Box.new w1' 37 (patC (.slice A (quotePt cs).pre.length c) (.slice B (quotePt cs).suf.length d) (.slice C (quotePt cs).npre.length a) (.slice D (quotePt cs).nsuf.length b) (quotePt cs).num)
        have hxa : Ext wr (w1'.alloc (.cells (patC (.slice A (quotePt cs).pre.length c) (.slice B (quotePt cs).suf.length d) (.slice C (quotePt cs).npre.length a) (.slice D (quotePt cs).nsuf.length b) (quotePt cs).num).toArray 37)) := Ext.alloc_ hx1 _
        have hpt : PtR (w1'.alloc (.cells (patC (.slice A (quotePt cs).pre.length c) (.slice B (quotePt cs).suf.length d) (.slice C (quotePt cs).npre.length a) (.slice D (quotePt cs).nsuf.length b) (quotePt cs).num).toArray 37)) A B C D (quotePt cs) := PtR.ext (w := w1') ⟨hA, hB, hC, hD⟩ (Ext.alloc_ (Ext.refl _) _)
        obtain ⟨w2, hw2⟩ : ∃ w2, w2 = w1'.alloc (.cells (patC (.slice A (quotePt cs).pre.length c) (.slice B (quotePt cs).suf.length d) (.slice C (quotePt cs).npre.length a) (.slice D (quotePt cs).nsuf.length b) (quotePt cs).num).toArray 37) := ⟨_, rfl⟩
        rw [← hw2] at hn1 hxa hpt
        have k0 := hn1.cell (j := 0) (v := .slice A 1 c) rfl
        have k1 := hn1.cell (j := 1) (v := .slice B 0 d) rfl
        have k2 := hn1.cell (j := 2) (v := .slice C 2 a) rfl
        have k3 := hn1.cell (j := 3) (v := .slice D 0 b) rfl
        have k4 := hn1.cell (j := 4) (v := .int .i64 0) rfl
        have k5 := hn1.cell (j := 5) (v := .int .i64 0) rfl
        have k6 := hn1.cell (j := 6) (v := .int .i64 0) rfl
        have k7 := hn1.cell (j := 7) (v := .int .i64 0) rfl
        have k8 := hn1.cell (j := 8) (v := .int .i64 0) rfl
        have HN1 := Lib.hid hn1
        have HPT := Lib.hid hpt
        have HXA := Lib.hid hxa
        clear hn1 hpt hxa hA hB hC hD hx1
        subst hw2
        go_wp2_with (refine wpList_store_fresh rfl 37 (.tmp 11) (.tmp 52) rfl (patC (.slice A (quotePt cs).pre.length c) (.slice B (quotePt cs).suf.length d) (.slice C (quotePt cs).npre.length a) (.slice D (quotePt cs).nsuf.length b) (quotePt cs).num).toArray 37 _ rfl rfl infoPat rfl pat_one ?_)
        refine (print_ A B C D c d a b (quotePt cs).pre (quotePt cs).suf 0 _ HPT.out.1 HPT.out.2.1 HPT.out.2.2.1 HPT.out.2.2.2 oA oB (HPR.out _ HXA.out) (HMR.out _ HXA.out) (.inl rfl) (by simp [quotePt]) (by simp [quotePt]) HP1.out HP2.out).mono ?_
        rintro e w3 ⟨rfl, hx3⟩
        go_wp2_with fail
        refine (parse_okL HB.out _ (by omega)).mono ?_
        rintro e w4 ⟨A', c', B', d', C', a', D', b', rfl, hA', hB', hC', hD', oA', oB', oC', oD', hx4⟩
        have hn2 := Box.new w4 37 (patC (.slice A' (quotePt cs).pre.length c') (.slice B' (quotePt cs).suf.length d') (.slice C' (quotePt cs).npre.length a') (.slice D' (quotePt cs).nsuf.length b') (quotePt cs).num)
        have hn3 : Box (w4.alloc (.cells (patC (.slice A' (quotePt cs).pre.length c') (.slice B' (quotePt cs).suf.length d') (.slice C' (quotePt cs).npre.length a') (.slice D' (quotePt cs).nsuf.length b') (quotePt cs).num).toArray 37)) w1'.heap.size 37 (patC (.slice A (quotePt cs).pre.length c) (.slice B (quotePt cs).suf.length d) (.slice C (quotePt cs).npre.length a) (.slice D (quotePt cs).nsuf.length b) (quotePt cs).num) := ((HN1.out.ext hx3).ext hx4).alloc _
        have hxb : Ext wr (w4.alloc (.cells (patC (.slice A' (quotePt cs).pre.length c') (.slice B' (quotePt cs).suf.length d') (.slice C' (quotePt cs).npre.length a') (.slice D' (quotePt cs).nsuf.length b') (quotePt cs).num).toArray 37)) := Ext.alloc_ ((HXA.out.trans hx3).trans hx4) _
        have hpt2 : PtR (w4.alloc (.cells (patC (.slice A' (quotePt cs).pre.length c') (.slice B' (quotePt cs).suf.length d') (.slice C' (quotePt cs).npre.length a') (.slice D' (quotePt cs).nsuf.length b') (quotePt cs).num).toArray 37)) A' B' C' D' (quotePt cs) := PtR.ext (w := w4) ⟨hA', hB', hC', hD'⟩ (Ext.alloc_ (Ext.refl _) _)
        have hpt1 : PtR (w4.alloc (.cells (patC (.slice A' (quotePt cs).pre.length c') (.slice B' (quotePt cs).suf.length d') (.slice C' (quotePt cs).npre.length a') (.slice D' (quotePt cs).nsuf.length b') (quotePt cs).num).toArray 37)) A B C D (quotePt cs) := HPT.out.ext (Ext.alloc_ (hx3.trans hx4) _)
        obtain ⟨w5, hw5⟩ : ∃ w5, w5 = w4.alloc (.cells (patC (.slice A' (quotePt cs).pre.length c') (.slice B' (quotePt cs).suf.length d') (.slice C' (quotePt cs).npre.length a') (.slice D' (quotePt cs).nsuf.length b') (quotePt cs).num).toArray 37) := ⟨_, rfl⟩
        rw [← hw5] at hn2 hn3 hxb hpt1 hpt2
        have i0 := hn2.cell (j := 0) (v := .slice A' 1 c') rfl
        have i1 := hn2.cell (j := 1) (v := .slice B' 0 d') rfl
        have i2 := hn2.cell (j := 2) (v := .slice C' 2 a') rfl
        have i3 := hn2.cell (j := 3) (v := .slice D' 0 b') rfl
        have i4 := hn2.cell (j := 4) (v := .int .i64 0) rfl
        have i5 := hn2.cell (j := 5) (v := .int .i64 0) rfl
        have i6 := hn2.cell (j := 6) (v := .int .i64 0) rfl
        have i7 := hn2.cell (j := 7) (v := .int .i64 0) rfl
        have i8 := hn2.cell (j := 8) (v := .int .i64 0) rfl
        have j0 := hn3.cell (j := 0) (v := .slice A 1 c) rfl
        have j1 := hn3.cell (j := 1) (v := .slice B 0 d) rfl
        have j2 := hn3.cell (j := 2) (v := .slice C 2 a) rfl
        have j3 := hn3.cell (j := 3) (v := .slice D 0 b) rfl
        have j4 := hn3.cell (j := 4) (v := .int .i64 0) rfl
        have j5 := hn3.cell (j := 5) (v := .int .i64 0) rfl
        have j6 := hn3.cell (j := 6) (v := .int .i64 0) rfl
        have j7 := hn3.cell (j := 7) (v := .int .i64 0) rfl
        have j8 := hn3.cell (j := 8) (v := .int .i64 0) rfl
        have HXB := Lib.hid hxb
        have HPT1 := Lib.hid hpt1
        have HPT2 := Lib.hid hpt2
        clear hn2 hn3 hxb hpt1 hpt2 hA' hB' hC' hD' hx3 hx4
        have hbq : PtB (quotePt cs) := ⟨by simp [quotePt], by simp [quotePt], by simp [quotePt], by simp [quotePt]⟩
        subst hw5
        go_wp2_with (refine wpList_store_fresh rfl 37 (.tmp 13) (.tmp 58) rfl (patC (.slice A' (quotePt cs).pre.length c') (.slice B' (quotePt cs).suf.length d') (.slice C' (quotePt cs).npre.length a') (.slice D' (quotePt cs).nsuf.length b') (quotePt cs).num).toArray 37 _ rfl rfl infoPat rfl pat_one ?_)
        refine (same_ A B C D A' B' C' D' c d a b c' d' a' b' (quotePt cs) (quotePt cs) _ HPT1.out HPT2.out hbq hbq).mono ?_
        rintro e w6 ⟨rfl, hx6⟩
        rw [decide_eq_true rfl]
        have m0 := Ext.cell_ hx6 j0
        go_wp2_with fail
        refine (resolve_ A c [99] [112] [109] (quotePt cs).pre w6 (HPT1.out.1.below hx6 (Nat.le_refl _)) (by simp [quotePt]) (by simp) (by simp) (by simp) HP3.out).mono ?_
        rintro e w7 ⟨rfl, hx7⟩
        rw [HRS.out]
        have m1 := Ext.cell_ hx7 m0
        have hx67 := (HXB.out.trans hx6).trans hx7
        have HX67 := Lib.hid hx67
        clear hx67
        go_wp2_with fail
        refine (lives_ w7 (HPR.out _ HX67.out) (HMR.out _ HX67.out)).mono ?_
        rintro e w8 ⟨rfl, hx8⟩
        go_wp2
        go_ret
        exact ⟨rfl, HXW.out.trans (HX67.out.trans hx8)⟩
end Go.Proofs.YtbnlbkmihemicaaDoor.Pat
