/- The law PatternHalves: a text without a second half is that whose second half has a minus ahead of the prefix. -/
import Derived.Test.YtbnlbkmihemicaaDoorPatY
import Derived.Test.YtbnlbkmihemicaaDoorPatS
namespace Go.Proofs.YtbnlbkmihemicaaDoor.Pat
open Go.RowKit Utf All Small Strs Build EncC
set_option linter.unusedVariables false
set_option linter.unusedSimpArgs false

theorem parse_okl {l : List UInt8} {p : Pt} (hp : parseF l = .ok p) (w : World) (hs : l.length ≤ 100000000) :
    Calls Tryd.prog 14 #[.string ⟨l.toArray⟩] w fun e w' => ∃ A c B d C a D b, e = .returned (.tuple #[.agg (patC (.slice A p.pre.length c) (.slice B p.suf.length d) (.slice C p.npre.length a) (.slice D p.nsuf.length b) p.num).toArray, .int .i64 0]) ∧
      Row w' A (pcsV p.pre) ∧ Row w' B (pcsV p.suf) ∧ Row w' C (pcsV p.npre) ∧ Row w' D (pcsV p.nsuf) ∧ Okc A c ∧ Okc B d ∧ Okc C a ∧ Okc D b ∧ Ext w w' :=
  parse_ok (s := ⟨l.toArray⟩) hp w hs
theorem fracT_len (a b : Nat) : (fracT a b).length ≤ 1 + a + b := by
  unfold fracT
  split
  · simp only [List.length_cons, List.length_append, List.length_replicate]; omega
  · simp
theorem textF_len (g : GG) : (textF g).length ≤ 200 := by
  have h1 := signF_len g.pre
  have h2 := signF_len g.suf
  have h3 := signF_len g.npre
  have h4 := signF_len g.nsuf
  have z : nat g.zeros 7 < 7 := nat_lt g.zeros 7 (by omega)
  have p : nat g.prim 5 < 5 := nat_lt g.prim 5 (by omega)
  have q : nat g.sec 5 < 5 := nat_lt g.sec 5 (by omega)
  have a : nat g.minf 4 < 4 := nat_lt g.minf 4 (by omega)
  have b : nat g.more 4 < 4 := nat_lt g.more 4 (by omega)
  have hn : numN' (nat g.zeros 7) (nat g.prim 5) (nat g.sec 5) ≤ 9 := by unfold numN'; omega
  have h5 := numT_len (nat g.zeros 7) (nat g.prim 5) (nat g.sec 5) (numN' (nat g.zeros 7) (nat g.prim 5) (nat g.sec 5)) (numN' (nat g.zeros 7) (nat g.prim 5) (nat g.sec 5))
  have h6 := fracT_len (nat g.minf 4) (nat g.more 4)
  unfold textF coreT
  split <;> simp only [List.length_append, List.length_cons, List.length_nil] <;> omega
theorem tokS_len : ∀ (xs : List Int) (q p : Bool) (l : List Pc), tokS q p xs = some l → l.length ≤ xs.length
  | [], q, p, l, h => by cases q <;> cases p <;> simp [tokS] at h <;> subst h <;> simp
  | c :: r, q, p, l, h => by
    cases p <;> rw [tokS] at h
    · split at h
      · have := tokS_len r q true l h; simp only [List.length_cons]; omega
      · split at h
        · obtain ⟨m, hm, rfl⟩ := Option.map_eq_some_iff.1 h
          have := tokS_len r true false m hm; simp only [List.length_cons]; omega
        · split at h
          · cases h
          · obtain ⟨m, hm, rfl⟩ := Option.map_eq_some_iff.1 h
            have := tokS_len r false false m hm; simp only [List.length_cons]; omega
    · split at h
      · obtain ⟨m, hm, rfl⟩ := Option.map_eq_some_iff.1 h
        have := tokS_len r q false m hm; simp only [List.length_cons]; omega
      · split at h
        · split at h
          · cases h
          · obtain ⟨m, hm, rfl⟩ := Option.map_eq_some_iff.1 h
            have := tokS_len r false false m hm; simp only [List.length_cons]; omega
        · obtain ⟨m, hm, rfl⟩ := Option.map_eq_some_iff.1 h
          have := tokS_len r true false m hm; simp only [List.length_cons]; omega
theorem one_le (x : Int) : (oneC x).length ≤ 4 := by
  have h := aroundF_bd x 10 (by omega)
  have key : ∀ j : Fin 10, (tblC.getD j.val []).length ≤ 4 := by decide
  exact key ⟨(aroundF x 10).toNat, by omega⟩
theorem signC_len (xs : List Int) : (signC xs).length ≤ 20 := by
  have key : ∀ l : List Int, (l.flatMap oneC).length ≤ 4 * l.length := by
    intro l
    induction l with
    | nil => simp
    | cons x r ih => have := one_le x; rw [List.flatMap_cons, List.length_append, List.length_cons]; omega
  have h1 := key (xs.take 5)
  have h2 : (xs.take 5).length ≤ 5 := by simp; omega
  unfold signC; omega
theorem joinTok_len (xs : List Int) : (joinF (tokOf (signC xs))).length ≤ 20 := by
  have h1 := joinF_len (tokOf (signC xs))
  have h2 := tokS_len _ _ _ _ (tok_of (sign_gd xs)).1
  have h3 := signC_len xs
  omega
theorem ptOf_B (g : GG) : (ptOf g).pre.length ≤ 20 ∧ (ptOf g).suf.length ≤ 20 ∧ (ptOf g).npre.length ≤ 21 ∧ (ptOf g).nsuf.length ≤ 20 := by
  have h1 := joinTok_len g.pre
  have h2 := joinTok_len g.suf
  have h3 := joinTok_len g.npre
  have h4 := joinTok_len g.nsuf
  unfold ptOf
  split <;> simp <;> omega
theorem ptOf_PB (g : GG) : PtB (ptOf g) := by
  obtain ⟨h1, h2, h3, h4⟩ := ptOf_B g
  exact ⟨by omega, by omega, by omega, by omega⟩
theorem cnt_half (g : GG) (h2 : g.two = false) : cntK 3 (ptOf g).npre = cntK 3 (ptOf g).pre + 1 := by
  unfold ptOf; rw [h2]
  simp [cntK, isK]
theorem count_n (A : Option Addr) (c n : Nat) (l : List Pc) (k : Int) (w : World) (hn : l.length = n) (hr : Row w A (pcsV l)) (hl : l.length ≤ 10000000000) :
    Calls Tryd.prog 12 #[.slice A n c, .int .i64 k] w fun e w' => e = .returned (.int .i64 (cntK k l)) ∧ Ext w w' := by
  subst hn; exact count_ A c l k w hr hl
theorem semi_mk (l : List UInt8) : (⟨l.toArray⟩ : ByteArray) ++ ⟨#[59, 45]⟩ ++ ⟨l.toArray⟩ = ⟨(l ++ [59, 45] ++ l).toArray⟩ := by
  refine bytes_ext ?_
  simp
set_option maxHeartbeats 4000000 in
set_option maxRecDepth 2000000 in
theorem law_PatternHalves (E0 E1 E2 E3 : Option Addr) (e0 e1 e2 e3 : Nat) (g0 : GG) (w : World) (hg : GgR w E0 E1 E2 E3 g0) (h0 : 0 < w.heap.size) (HM : ∃ m, w.cell? ⟨0, 0, none⟩ = some (.int .i64 m)) :
    Calls Tryd.prog 5 #[.agg (ggV E0 E1 E2 E3 e0 e1 e2 e3 g0).toArray] w fun e w' => e = .returned (.bool true) ∧ Below w.heap.size w w' := by
  have hb1 := Box.new w 43 (ggV E0 E1 E2 E3 e0 e1 e2 e3 g0)
  have hx1 : Ext w (w.alloc (.cells (ggV E0 E1 E2 E3 e0 e1 e2 e3 g0).toArray 43)) := Ext.alloc_ (Ext.refl w) _
  obtain ⟨gpre, gsuf, gtwo, gnp, gns, gz, gp, gs, gmf, gm⟩ := g0
  have hg' : GgR w E0 E1 E2 E3 ⟨gpre, gsuf, false, gnp, gns, gz, gp, gs, gmf, gm⟩ := ⟨hg.rA, hg.rB, hg.rC, hg.rD, hg.bA, hg.bB, hg.bC, hg.bD, hg.nums⟩
  obtain ⟨g, hgd⟩ : ∃ g : GG, g = ⟨gpre, gsuf, false, gnp, gns, gz, gp, gs, gmf, gm⟩ := ⟨_, rfl⟩
  have h2 : g.two = false := by rw [hgd]
  go_enter Tryd.func5, Tryd.ntmps5
  go_upto_region 1 with fail
  change Code.wp _ _ _ _ (w.alloc (.cells (ggV E0 E1 E2 E3 e0 e1 e2 e3 ⟨gpre, gsuf, gtwo, gnp, gns, gz, gp, gs, gmf, gm⟩).toArray 43))
  generalize w.alloc (.cells (ggV E0 E1 E2 E3 e0 e1 e2 e3 ⟨gpre, gsuf, gtwo, gnp, gns, gz, gp, gs, gmf, gm⟩).toArray 43) = w1 at *
  have k2 := hb1.cell (j := 2) (v := .bool gtwo) rfl
  have f2 := hb1.frozen 2
  have hb2 := hb1.setCell 2 (.bool false)
  have hx2 : Ext w (w1.setCell ⟨w.heap.size, 2, none⟩ (.bool false)) := Ext.setCell_ hx1 (Nat.le_refl _) _ _
  have l0 := hb2.cell (j := 0) (v := .slice E0 gpre.length e0) rfl
  have l1 := hb2.cell (j := 1) (v := .slice E1 gsuf.length e1) rfl
  have l2 := hb2.cell (j := 2) (v := .bool false) rfl
  have l3 := hb2.cell (j := 3) (v := .slice E2 gnp.length e2) rfl
  have l4 := hb2.cell (j := 4) (v := .slice E3 gns.length e3) rfl
  have l5 := hb2.cell (j := 5) (v := .int .i64 gz) rfl
  have l6 := hb2.cell (j := 6) (v := .int .i64 gp) rfl
  have l7 := hb2.cell (j := 7) (v := .int .i64 gs) rfl
  have l8 := hb2.cell (j := 8) (v := .int .i64 gmf) rfl
  have l9 := hb2.cell (j := 9) (v := .int .i64 gm) rfl
  have HG := Lib.hid (hg'.ext hx2)
  have HX2 := Lib.hid hx2
  have HPT := Lib.hid (parse_text g)
  have HPW := Lib.hid (parse_twice g h2)
  have HTL := textF_len g
  have HCN := Lib.hid (cnt_half g h2)
  have hB := ptOf_PB g
  have hL := ptOf_B g
  clear hx1 hx2 hg hg' hb1 hb2 h2
  go_wp2_with fail
  refine (text_ E0 E1 E2 E3 e0 e1 e2 e3 ⟨gpre, gsuf, false, gnp, gns, gz, gp, gs, gmf, gm⟩ _ HG.out).mono ?_; rintro e w3 ⟨rfl, hx3⟩
  rw [← hgd]
  have HX3 := Lib.hid (HX2.out.trans hx3)
  clear hgd hx3
  generalize textF g = tx at *
  go_wp2_with fail
  refine (parse_okl HPT.out _ (by omega)).mono ?_
  rintro e w4 ⟨A, c, B, d, C, a, D, b, rfl, hA, hB', hC, hD, oA, oB, oC, oD, hx4⟩
  have hn1 := Box.new w4 37 (patC (.slice A (ptOf g).pre.length c) (.slice B (ptOf g).suf.length d) (.slice C (ptOf g).npre.length a) (.slice D (ptOf g).nsuf.length b) (ptOf g).num)
  have hpt : PtR (w4.alloc (.cells (patC (.slice A (ptOf g).pre.length c) (.slice B (ptOf g).suf.length d) (.slice C (ptOf g).npre.length a) (.slice D (ptOf g).nsuf.length b) (ptOf g).num).toArray 37)) A B C D (ptOf g) := PtR.ext (w := w4) ⟨hA, hB', hC, hD⟩ (Ext.alloc_ (Ext.refl _) _)
  have hxa : Ext w (w4.alloc (.cells (patC (.slice A (ptOf g).pre.length c) (.slice B (ptOf g).suf.length d) (.slice C (ptOf g).npre.length a) (.slice D (ptOf g).nsuf.length b) (ptOf g).num).toArray 37)) := Ext.alloc_ (HX3.out.trans hx4) _
  have HN1 := Lib.hid hn1
  have HP1 := Lib.hid hpt
  have HXA := Lib.hid hxa
  clear hn1 hpt hxa hA hB' hC hD hx4
  go_wp2_with (refine wpList_store_fresh rfl 37 (.tmp 4) (.tmp 14) rfl (patC (.slice A (ptOf g).pre.length c) (.slice B (ptOf g).suf.length d) (.slice C (ptOf g).npre.length a) (.slice D (ptOf g).nsuf.length b) (ptOf g).num).toArray 37 _ rfl rfl infoPat rfl pat_one ?_)
  rw [semi_mk]
  refine (parse_okl HPW.out _ (by simp; omega)).mono ?_
  rintro e w5 ⟨A', c', B', d', C', a', D', b', rfl, hA', hB', hC', hD', oA', oB', oC', oD', hx5⟩
  have hn2 := Box.new w5 37 (patC (.slice A' (ptOf g).pre.length c') (.slice B' (ptOf g).suf.length d') (.slice C' (ptOf g).npre.length a') (.slice D' (ptOf g).nsuf.length b') (ptOf g).num)
  have hn3 : Box (w5.alloc (.cells (patC (.slice A' (ptOf g).pre.length c') (.slice B' (ptOf g).suf.length d') (.slice C' (ptOf g).npre.length a') (.slice D' (ptOf g).nsuf.length b') (ptOf g).num).toArray 37)) w4.heap.size 37 (patC (.slice A (ptOf g).pre.length c) (.slice B (ptOf g).suf.length d) (.slice C (ptOf g).npre.length a) (.slice D (ptOf g).nsuf.length b) (ptOf g).num) := (HN1.out.ext hx5).alloc _
  have hxb : Ext w (w5.alloc (.cells (patC (.slice A' (ptOf g).pre.length c') (.slice B' (ptOf g).suf.length d') (.slice C' (ptOf g).npre.length a') (.slice D' (ptOf g).nsuf.length b') (ptOf g).num).toArray 37)) := Ext.alloc_ (HXA.out.trans hx5) _
  have hpt2 : PtR (w5.alloc (.cells (patC (.slice A' (ptOf g).pre.length c') (.slice B' (ptOf g).suf.length d') (.slice C' (ptOf g).npre.length a') (.slice D' (ptOf g).nsuf.length b') (ptOf g).num).toArray 37)) A' B' C' D' (ptOf g) := PtR.ext (w := w5) ⟨hA', hB', hC', hD'⟩ (Ext.alloc_ (Ext.refl _) _)
  have hpt1 : PtR (w5.alloc (.cells (patC (.slice A' (ptOf g).pre.length c') (.slice B' (ptOf g).suf.length d') (.slice C' (ptOf g).npre.length a') (.slice D' (ptOf g).nsuf.length b') (ptOf g).num).toArray 37)) A B C D (ptOf g) := HP1.out.ext (Ext.alloc_ hx5 _)
  obtain ⟨w6, hw6⟩ : ∃ w6, w6 = w5.alloc (.cells (patC (.slice A' (ptOf g).pre.length c') (.slice B' (ptOf g).suf.length d') (.slice C' (ptOf g).npre.length a') (.slice D' (ptOf g).nsuf.length b') (ptOf g).num).toArray 37) := ⟨_, rfl⟩
  rw [← hw6] at hn2 hn3 hxb hpt1 hpt2
  have i0 := hn2.cell (j := 0) (v := .slice A' (ptOf g).pre.length c') rfl
  have i1 := hn2.cell (j := 1) (v := .slice B' (ptOf g).suf.length d') rfl
  have i2 := hn2.cell (j := 2) (v := .slice C' (ptOf g).npre.length a') rfl
  have i3 := hn2.cell (j := 3) (v := .slice D' (ptOf g).nsuf.length b') rfl
  have i4 := hn2.cell (j := 4) (v := .int .i64 (ptOf g).num.prim) rfl
  have i5 := hn2.cell (j := 5) (v := .int .i64 (ptOf g).num.sec) rfl
  have i6 := hn2.cell (j := 6) (v := .int .i64 (ptOf g).num.minInt) rfl
  have i7 := hn2.cell (j := 7) (v := .int .i64 (ptOf g).num.minFrac) rfl
  have i8 := hn2.cell (j := 8) (v := .int .i64 (ptOf g).num.maxFrac) rfl
  have j0 := hn3.cell (j := 0) (v := .slice A (ptOf g).pre.length c) rfl
  have j1 := hn3.cell (j := 1) (v := .slice B (ptOf g).suf.length d) rfl
  have j2 := hn3.cell (j := 2) (v := .slice C (ptOf g).npre.length a) rfl
  have j3 := hn3.cell (j := 3) (v := .slice D (ptOf g).nsuf.length b) rfl
  have j4 := hn3.cell (j := 4) (v := .int .i64 (ptOf g).num.prim) rfl
  have j5 := hn3.cell (j := 5) (v := .int .i64 (ptOf g).num.sec) rfl
  have j6 := hn3.cell (j := 6) (v := .int .i64 (ptOf g).num.minInt) rfl
  have j7 := hn3.cell (j := 7) (v := .int .i64 (ptOf g).num.minFrac) rfl
  have j8 := hn3.cell (j := 8) (v := .int .i64 (ptOf g).num.maxFrac) rfl
  have HXB := Lib.hid hxb
  have hl1 : (ptOf g).pre.length ≤ 20 := hL.1
  have hl3 : (ptOf g).npre.length ≤ 21 := hL.2.2.1
  have hcp : cntK 3 (ptOf g).pre ≤ 20 := Nat.le_trans (List.countP_le_length) hl1
  have HS : Hid (∀ W, Ext w6 W → Calls Tryd.prog 16 #[.agg #[.slice A (ptOf g).pre.length c, .slice B (ptOf g).suf.length d, .slice C (ptOf g).npre.length a, .slice D (ptOf g).nsuf.length b, .int .i64 (ptOf g).num.prim, .int .i64 (ptOf g).num.sec, .int .i64 (ptOf g).num.minInt, .int .i64 (ptOf g).num.minFrac, .int .i64 (ptOf g).num.maxFrac], .agg #[.slice A' (ptOf g).pre.length c', .slice B' (ptOf g).suf.length d', .slice C' (ptOf g).npre.length a', .slice D' (ptOf g).nsuf.length b', .int .i64 (ptOf g).num.prim, .int .i64 (ptOf g).num.sec, .int .i64 (ptOf g).num.minInt, .int .i64 (ptOf g).num.minFrac, .int .i64 (ptOf g).num.maxFrac]] W fun e w' => e = .returned (.bool true) ∧ Ext W w') := Lib.hid (fun W hW => (same_ A B C D A' B' C' D' c d a b c' d' a' b' (ptOf g) (ptOf g) W (hpt1.ext hW) (hpt2.ext hW) hB hB).mono fun e w' ⟨q1, q2⟩ => ⟨by rw [q1, decide_eq_true rfl], q2⟩)
  have HC1 : Hid (∀ W, Ext w6 W → Calls Tryd.prog 12 #[.slice C (ptOf g).npre.length a, .int .i64 3] W fun e w' => e = .returned (.int .i64 ((cntK 3 (ptOf g).pre : Int) + 1)) ∧ Ext W w') := Lib.hid (fun W hW => (count_ C a (ptOf g).npre 3 W (hpt1.ext hW).2.2.1 (by omega)).mono fun e w' ⟨q1, q2⟩ => ⟨by rw [q1, HCN.out]; rfl, q2⟩)
  have HC2 : Hid (∀ W, Ext w6 W → Calls Tryd.prog 12 #[.slice A (ptOf g).pre.length c, .int .i64 3] W fun e w' => e = .returned (.int .i64 (cntK 3 (ptOf g).pre)) ∧ Ext W w') := Lib.hid (fun W hW => count_ A c (ptOf g).pre 3 W (hpt1.ext hW).1 (by omega))
  have HLV : Hid (∀ W, Ext w6 W → Calls Tryd.prog 13 #[] W fun e w' => e = .returned (.bool true) ∧ Ext W w') := Lib.hid (fun W hW => lives_ W (by have := (hxb.trans hW).size; omega) (by
    obtain ⟨m, hm⟩ := HM
    exact ⟨m, Ext.cell_ (hxb.trans hW) hm⟩))
  have hE1 : Ext w6 w6 := Ext.refl w6
  clear hn2 hn3 hxb hpt1 hpt2 hA' hB' hC' hD' hx5 hB hL
  generalize hm1 : cntK 3 (ptOf g).pre = m1 at *
  clear hm1 HCN
  have hwr : IntKind.i64.wrap ((m1 : Int) + 1) = (m1 : Int) + 1 := by rw [IntKind.wrap_i64]; omega
  subst hw6
  go_upto_region 5 with (refine wpList_store_fresh rfl 37 (.tmp 6) (.tmp 22) rfl (patC (.slice A' (ptOf g).pre.length c') (.slice B' (ptOf g).suf.length d') (.slice C' (ptOf g).npre.length a') (.slice D' (ptOf g).nsuf.length b') (ptOf g).num).toArray 37 _ rfl rfl infoPat rfl pat_one ?_)
  generalize w5.alloc (.cells (patC (.slice A' (ptOf g).pre.length c') (.slice B' (ptOf g).suf.length d') (.slice C' (ptOf g).npre.length a') (.slice D' (ptOf g).nsuf.length b') (ptOf g).num).toArray 37) = w6 at *
  generalize (ptOf g).pre.length = n0 at *
  generalize (ptOf g).suf.length = n1 at *
  generalize (ptOf g).npre.length = n2 at *
  generalize (ptOf g).nsuf.length = n3 at *
  generalize (ptOf g).num.prim = x4 at *
  generalize (ptOf g).num.sec = x5 at *
  generalize (ptOf g).num.minInt = x6 at *
  generalize (ptOf g).num.minFrac = x7 at *
  generalize (ptOf g).num.maxFrac = x8 at *
  go_cut [2] (fun u wx => u = .bool true ∧ Ext w6 wx)
  case first =>
    go_region_held3 (fun W => Ext w6 W  ∧ W.cell? ⟨w4.heap.size, 0, none⟩ = some (.slice A n0 c) ∧ W.cell? ⟨w4.heap.size, 1, none⟩ = some (.slice B n1 d) ∧ W.cell? ⟨w4.heap.size, 2, none⟩ = some (.slice C n2 a) ∧ W.cell? ⟨w4.heap.size, 3, none⟩ = some (.slice D n3 b) ∧ W.cell? ⟨w4.heap.size, 4, none⟩ = some (.int .i64 x4) ∧ W.cell? ⟨w4.heap.size, 5, none⟩ = some (.int .i64 x5) ∧ W.cell? ⟨w4.heap.size, 6, none⟩ = some (.int .i64 x6) ∧ W.cell? ⟨w4.heap.size, 7, none⟩ = some (.int .i64 x7) ∧ W.cell? ⟨w4.heap.size, 8, none⟩ = some (.int .i64 x8) ∧ W.cell? ⟨w5.heap.size, 0, none⟩ = some (.slice A' n0 c') ∧ W.cell? ⟨w5.heap.size, 1, none⟩ = some (.slice B' n1 d') ∧ W.cell? ⟨w5.heap.size, 2, none⟩ = some (.slice C' n2 a') ∧ W.cell? ⟨w5.heap.size, 3, none⟩ = some (.slice D' n3 b') ∧ W.cell? ⟨w5.heap.size, 4, none⟩ = some (.int .i64 x4) ∧ W.cell? ⟨w5.heap.size, 5, none⟩ = some (.int .i64 x5) ∧ W.cell? ⟨w5.heap.size, 6, none⟩ = some (.int .i64 x6) ∧ W.cell? ⟨w5.heap.size, 7, none⟩ = some (.int .i64 x7) ∧ W.cell? ⟨w5.heap.size, 8, none⟩ = some (.int .i64 x8))
      (first
        | exact ⟨Ext.drew_ (Ext.refl _), j0, j1, j2, j3, j4, j5, j6, j7, j8, i0, i1, i2, i3, i4, i5, i6, i7, i8⟩
        | exact ⟨Ext.refl _, j0, j1, j2, j3, j4, j5, j6, j7, j8, i0, i1, i2, i3, i4, i5, i6, i7, i8⟩
        | (refine (fun h => ⟨h, Ext.cell_ h j0, Ext.cell_ h j1, Ext.cell_ h j2, Ext.cell_ h j3, Ext.cell_ h j4, Ext.cell_ h j5, Ext.cell_ h j6, Ext.cell_ h j7, Ext.cell_ h j8, Ext.cell_ h i0, Ext.cell_ h i1, Ext.cell_ h i2, Ext.cell_ h i3, Ext.cell_ h i4, Ext.cell_ h i5, Ext.cell_ h i6, Ext.cell_ h i7, Ext.cell_ h i8⟩) ?_; first | assumption | exact Ext.drew_ (by assumption)))
      (first
        | (go_at_call 16; with_reducible refine (HS.out _ ?_).mono ?_; (first | assumption | exact Ext.drew_ (Ext.refl _)); rintro e w4 ⟨rfl, hx4⟩; (first | (have hE4 := (Ext.drew_ (Ext.refl w6)).trans hx4) | (rename Ext w6 _ => hEo; have hE4 := hEo.trans hx4)))
        | (go_at_call 12; with_reducible refine (HC1.out _ ?_).mono ?_; (first | assumption | exact Ext.drew_ (Ext.refl _)); rintro e w4 ⟨rfl, hx4⟩; (first | (have hE4 := (Ext.drew_ (Ext.refl w6)).trans hx4) | (rename Ext w6 _ => hEo; have hE4 := hEo.trans hx4)))
        | (go_at_call 12; with_reducible refine (HC2.out _ ?_).mono ?_; (first | assumption | exact Ext.drew_ (Ext.refl _)); rintro e w4 ⟨rfl, hx4⟩; (first | (have hE4 := (Ext.drew_ (Ext.refl w6)).trans hx4) | (rename Ext w6 _ => hEo; have hE4 := hEo.trans hx4)))
        | (go_at_call 13; with_reducible refine (HLV.out _ ?_).mono ?_; (first | assumption | exact Ext.drew_ (Ext.refl _)); rintro e w4 ⟨rfl, hx4⟩; (first | (have hE4 := (Ext.drew_ (Ext.refl w6)).trans hx4) | (rename Ext w6 _ => hEo; have hE4 := hEo.trans hx4))))
    all_goals go_wp2_with fail
    all_goals go_meet
    all_goals exact ⟨rfl, by assumption⟩
  case rest =>
    obtain ⟨rfl, hE⟩ := hcut
    go_wp2
    go_ret
    exact ⟨rfl, HXB.out.trans hE⟩
end Go.Proofs.YtbnlbkmihemicaaDoor.Pat
