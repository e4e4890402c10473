/- Patterns of numbers: the walk of Parse. -/
import Derived.Test.YtdkjkbbibdppoaaGreatDoorPat8
import Derived.Deep.WholeRow
namespace Go.Proofs.YtdkjkbbibdppoaaGreatDoor.Pat
open Go.RowKit Utf All Small
set_option linter.unusedVariables false
set_option linter.unusedSimpArgs false

structure Pt where
  pre : List Pc
  suf : List Pc
  npre : List Pc
  nsuf : List Pc
  num : Nums
deriving DecidableEq
/-- both halves; of the second the pieces alone count, and if there is none it is the first with a minus ahead -/
def halves (a b : List Pc) (two : Bool) : Except Int Pt :=
  match halfF a with
  | none => .error 2
  | some (p, s, n, short) => match halfF b with
    | none => .error 2
    | some (p2, s2, _, short2) => if short && short2 then .ok (if two then ⟨p, s, p2, s2, n⟩ else ⟨p, s, (3, []) :: p, s, n⟩) else .error 3
def parseT (l : List Pc) : Except Int Pt :=
  if 0 ≤ idxF (isK 5) l then (if cntK 5 l = 1 then halves (l.take (idxF (isK 5) l).toNat) (l.drop ((idxF (isK 5) l).toNat + 1)) true else .error 2) else halves l l false
def parseF (s : List UInt8) : Except Int Pt := match tokL s with | none => .error 2 | some l => parseT l
def errV (e : Int) : Value := .tuple #[.agg (patC nilS nilS nilS nilS zeroN).toArray, .int .i64 e]
def ParseR (w : World) : Except Int Pt → Ending → World → Prop
  | .error x, e, w' => e = .returned (errV x) ∧ Ext w w'
  | .ok p, e, w' => ∃ A c B d C a D b, e = .returned (.tuple #[.agg (patC (.slice A p.pre.length c) (.slice B p.suf.length d) (.slice C p.npre.length a) (.slice D p.nsuf.length b) p.num).toArray, .int .i64 0]) ∧
      Row w' A (pcsV p.pre) ∧ Row w' B (pcsV p.suf) ∧ Row w' C (pcsV p.npre) ∧ Row w' D (pcsV p.nsuf) ∧ Okc A c ∧ Okc B d ∧ Okc C a ∧ Okc D b ∧ Ext w w'

abbrev dfr (g k : Nat) : List Deferred := [{ target := .fn (.func 46) #[.pointer (some ⟨g, 0, none⟩), .pointer (some ⟨k, 0, none⟩)], args := #[] }]
theorem results_parse (tmps : Array Value) (w : World) (g k : Nat) (cs : List Value) (v : Value)
    (h2 : tmps.getD 2 undef = .pointer (some ⟨g, 0, none⟩)) (h3 : tmps.getD 3 undef = .pointer (some ⟨k, 0, none⟩)) (hb : Box w g 28 cs) (hl : cs.length = 9) (hk : Box w k 29 [v]) :
    (results Tryz.f11 tmps).run Tryz.prog w = .ok (.tuple #[.agg cs.toArray, v]) w := by
  have h2' : tmps[2]?.getD undef = .pointer (some ⟨g, 0, none⟩) := by simpa using h2
  have h3' : tmps[3]?.getD undef = .pointer (some ⟨k, 0, none⟩) := by simpa using h3
  have e1 := run_loadVar_row (P := Tryz.prog) w g _ 28 cs.toArray (0, 0) _ hb Tryz.underlying28 rfl (by rw [infoPat]; simp [hl])
  have hc := hk.cell (j := 0) rfl
  have e2 : (loadVar 29 ⟨k, 0, none⟩).run Tryz.prog w = .ok v w := by simp [go_sem, hc]
  have hr : (Tryz.f11).results = #[.cell 2 28, .cell 3 29] := rfl
  simp [results, hr, h2', h3', asAddr, e1, e2]
theorem fails_ {v w : World} {g k : Nat} {cs : List Value} {u : Value} {R : Ending → World → Prop} {tmps : Array Value} (hb : Box w g 28 cs) (hl : cs.length = 9) (hk : Box w k 29 [u]) (hne : g ≠ k) (hv : Ext v w) (hg : v.heap.size ≤ g) (hkv : v.heap.size ≤ k)
    (h2 : tmps.getD 2 undef = .pointer (some ⟨g, 0, none⟩)) (h3 : tmps.getD 3 undef = .pointer (some ⟨k, 0, none⟩)) (hR : ∀ w', Ext v w' → R (.returned (errV 2)) w') :
    Leaves Tryz.prog Tryz.f11 tmps R (dfr g k) (.panicking [{ v := .iface 92 (.int .i64 2), recovered := false }]) w := by
  refine leaves_cons (f := 46) (args := #[.pointer (some ⟨g, 0, none⟩), .pointer (some ⟨k, 0, none⟩)]) (by simp) (by simp [go_sem]) ?_
  refine (catch_refused g k cs hl u v w hb hk hne hv hg hkv).mono ?_
  rintro e u' w'' ⟨rfl, rfl, hG, hK, hE⟩
  exact ⟨_, results_parse tmps w'' g k _ _ h2 h3 hG rfl hK, hR _ hE⟩
theorem ends_ {w : World} {g k : Nat} {cs : List Value} {u : Value} {R : Ending → World → Prop} {tmps : Array Value} (hb : Box w g 28 cs) (hl : cs.length = 9) (hk : Box w k 29 [u])
    (h2 : tmps.getD 2 undef = .pointer (some ⟨g, 0, none⟩)) (h3 : tmps.getD 3 undef = .pointer (some ⟨k, 0, none⟩)) (hR : R (.returned (.tuple #[.agg cs.toArray, u])) w) :
    Leaves Tryz.prog Tryz.f11 tmps R (dfr g k) .returning w := by
  refine leaves_cons (f := 46) (args := #[.pointer (some ⟨g, 0, none⟩), .pointer (some ⟨k, 0, none⟩)]) (by simp) (by simp [go_sem]) ?_
  refine (catch_idle g k w).mono ?_
  rintro e u' w'' ⟨rfl, rfl, rfl⟩
  exact ⟨_, results_parse tmps w'' g k cs u h2 h3 hb hl hk, hR⟩
theorem encB_le (c : Int) : (encB c).length ≤ 4 := by
  unfold encB
  split
  · have := (Lib.encodeRuneZ_length c).2
    simp only [Lib.encodeRune, List.length_map]; omega
  · simp
theorem tokS_tot : ∀ (xs : List Int) (q p : Bool) (l : List Pc), tokS q p xs = some l → tot l ≤ 4 * xs.length
  | [], q, p, l, h => by cases q <;> cases p <;> simp [tokS] at h <;> subst h <;> simp [tot]
  | c :: r, q, p, l, h => by
    have hcons : ∀ (k : Int) (d : Int) (m : List Pc), tot ((k, encB d) :: m) = (encB d).length + tot m := fun k d m => by simp [tot]
    have e39 := encB_le 39
    have ec := encB_le c
    cases p <;> rw [tokS] at h
    · split at h
      · have := tokS_tot r q true l h; simp only [List.length_cons]; omega
      · split at h
        · obtain ⟨m, hm, rfl⟩ := Option.map_eq_some_iff.1 h
          have := tokS_tot r true false m hm; rw [hcons]; simp only [List.length_cons]; omega
        · split at h
          · cases h
          · obtain ⟨m, hm, rfl⟩ := Option.map_eq_some_iff.1 h
            have := tokS_tot r false false m hm; rw [hcons]; simp only [List.length_cons]; omega
    · split at h
      · obtain ⟨m, hm, rfl⟩ := Option.map_eq_some_iff.1 h
        have := tokS_tot r q false m hm; rw [hcons]; simp only [List.length_cons]; omega
      · split at h
        · split at h
          · cases h
          · obtain ⟨m, hm, rfl⟩ := Option.map_eq_some_iff.1 h
            have := tokS_tot r false false m hm; rw [hcons]; simp only [List.length_cons]; omega
        · obtain ⟨m, hm, rfl⟩ := Option.map_eq_some_iff.1 h
          have := tokS_tot r true false m hm; rw [hcons]; simp only [List.length_cons]; omega
theorem tokL_tot {s : List UInt8} {l : List Pc} (h : tokL s = some l) : tot l ≤ 4 * (charsL s).length := tokS_tot _ _ _ _ h
theorem half_n (A : Option Addr) (c n : Nat) (l : List Pc) (w : World) (hn : l.length = n) (hr : Row w A (pcsV l)) (hl : l.length ≤ 1000000000) (ht : tot l ≤ 1000000000) (hlc : n ≤ c) :
    Calls Tryz.prog 52 #[.slice A n c] w fun e w' => HalfR w (halfF l) e w' := by
  subst hn; exact half_ A c l w hr hl ht hlc
theorem halfF_len {l p s : List Pc} {n : Nums} {b : Bool} (h : halfF l = some (p, s, n, b)) : p.length ≤ l.length ∧ s.length ≤ l.length := by
  unfold halfF at h
  split at h
  · cases h
  · split at h
    · cases h
    · obtain ⟨r, _, hr⟩ := Option.map_eq_some_iff.1 h
      injection hr with h1 h2
      injection h2 with h2 h3
      subst h1; subst h2
      exact ⟨Nat.le_trans (joinF_len _) (by simp; omega), Nat.le_trans (joinF_len _) (by simp)⟩
theorem wpList_store_fresh {P : Program} {ops : Array Oper} {rest : List Oper} {o : Oper} {a : Act} {w : World} {Q : Exit → Act → World → Prop} (hgd : o.guard = none) (ty : TypeId) (x y : Operand) (ho : o.op = .store ty x y)
    (cells : Array Value) (t : TypeId) (old : Array Value) (hx : a.eval x = .pointer (some ⟨w.heap.size, 0, none⟩)) (hy : a.eval y = .agg cells)
    (hi : (P.info? ty).map (·.size) = some cells.size)
    (hold : old.size = cells.size) (h1 : cells.all (·.oneCell') = true)
    (h : wpList P ops Q rest (a.put o.dst undef) (w.alloc (.cells cells t))) : wpList P ops Q (o :: rest) a (w.alloc (.cells old t)) :=
  wpList_store_row hgd ty x y ho w.heap.size cells hx hy t old (heap_alloc_new w _) hi hold h1 (by rw [World.setRow_alloc_new]; exact h)
/-- no block from g + 2 on has turned -/
def Only2 (g : Nat) (w w' : World) : Prop := w.heap.size ≤ w'.heap.size ∧ ∀ k, k < w.heap.size → g + 2 ≤ k → w'.heap[k]? = w.heap[k]?
theorem Only2.of_ext {g : Nat} {w w' : World} (h : Ext w w') : Only2 g w w' := ⟨h.size, fun k hk _ => h.block k hk⟩
theorem Only2.setCell {g j : Nat} {w w' : World} (h : Only2 g w w') (i : Nat) (v : Value) (hj : j < g + 2) : Only2 g w (w'.setCell ⟨j, i, none⟩ v) :=
  ⟨by have := h.1; simpa using this, fun k hk hg => (heap_setCell_other w' ⟨j, i, none⟩ k v (by simp only; omega)).trans (h.2 k hk hg)⟩
theorem Only2.setRow {g j : Nat} {w w' : World} (h : Only2 g w w') (ds : Array Value) (hj : j < g + 2) : Only2 g w (w'.setRow j ds) :=
  ⟨by have := h.1; simpa using this, fun k hk hg => (setRow_other w' j k ds (by omega)).trans (h.2 k hk hg)⟩
theorem Only2.drew {g : Nat} {w w' : World} (h : Only2 g w w') : Only2 g w w'.drew := h
theorem Row.only2 {g : Nat} {w w' v : World} {A : Option Addr} {cs : List Value} (hr : Row w A cs) (h : Only2 g w w') (hf : Fresh v A) (hv : g + 2 ≤ v.heap.size) : Row w' A cs := by
  rcases hr with hr | ⟨b, off, rfl, hr⟩
  · exact .inl hr
  · exact .inr ⟨b, off, rfl, fun j u hj => (World.cell?_of_block (h.2 b (block_lt (hr j u hj)) (Nat.le_trans hv (hf _ rfl)))).trans (hr j u hj)⟩
theorem halves_no1 {a b : List Pc} {two : Bool} (h : halfF a = none) : halves a b two = .error 2 := by unfold halves; rw [h]
theorem halves_no2 {a b : List Pc} {two : Bool} {p s : List Pc} {n : Nums} {t : Bool} (h1 : halfF a = some (p, s, n, t)) (h : halfF b = none) : halves a b two = .error 2 := by unfold halves; simp only [h1, h]
theorem halves_ok {a b : List Pc} {two : Bool} {p s p2 s2 : List Pc} {n n2 : Nums} {t t2 : Bool} (h1 : halfF a = some (p, s, n, t)) (h2 : halfF b = some (p2, s2, n2, t2)) :
    halves a b two = if t && t2 then .ok (if two then ⟨p, s, p2, s2, n⟩ else ⟨p, s, (3, []) :: p, s, n⟩) else .error 3 := by
  unfold halves; simp only [h1, h2]
--WALK
set_option maxRecDepth 100000 in
set_option maxHeartbeats 4000000 in
theorem parse_ (s : ByteArray) (w : World) (hs : s.size ≤ 100000000) :
    Calls Tryz.prog 11 #[.string s] w fun e w' => ParseR w (parseF s.data.toList) e w' := by
  have hmf : ∀ (fn : Fn) (first cap : Array Value) (w : World), (Instr.makeFunc fn first cap).run Tryz.prog w = .ok (.func fn first cap) w := fun _ _ _ _ => rfl
  have hbg := (Box.new w 28 (patC nilS nilS nilS nilS zeroN)).alloc (.cells #[.int .i64 0] 29)
  have hbk : Box ((w.alloc (.cells (patC nilS nilS nilS nilS zeroN).toArray 28)).alloc (.cells #[.int .i64 0] 29)) (w.heap.size + 1) 29 [.int .i64 0] := by
    have := Box.new (w.alloc (.cells (patC nilS nilS nilS nilS zeroN).toArray 28)) 29 [.int .i64 0]
    rwa [World.size_alloc] at this
  have hx0 : Ext w ((w.alloc (.cells (patC nilS nilS nilS nilS zeroN).toArray 28)).alloc (.cells #[.int .i64 0] 29)) := Ext.alloc_ (Ext.alloc_ (Ext.refl w) _) _
  have HS0 : Hid (((w.alloc (.cells (patC nilS nilS nilS nilS zeroN).toArray 28)).alloc (.cells #[.int .i64 0] 29)).heap.size = w.heap.size + 2) := Lib.hid (by simp)
  go_enter_defers Tryz.func11, Tryz.ntmps11
  go_wp2_with fail
  change Calls _ _ _ ((w.alloc (.cells (patC nilS nilS nilS nilS zeroN).toArray 28)).alloc (.cells #[.int .i64 0] 29)) _
  generalize (w.alloc (.cells (patC nilS nilS nilS nilS zeroN).toArray 28)).alloc (.cells #[.int .i64 0] 29) = w0 at *
  refine (tokens_ s _ (by omega)).mono ?_
  intro e w1 hT
  have HP : Hid (parseF s.data.toList = match tokL s.data.toList with | none => .error 2 | some l => parseT l) := Lib.hid rfl
  cases hl : tokL s.data.toList with
  | none =>
    rw [hl] at hT HP
    obtain ⟨rfl, hx1⟩ := hT
    go_wp2_with fail
    refine fails_ (v := w) (hbg.ext hx1) rfl (hbk.ext hx1) (by omega) (hx0.trans hx1) (Nat.le_refl _) (by omega) rfl rfl fun w' hw => ?_
    rw [HP.out]
    exact ⟨rfl, hw⟩
  | some l =>
    have htot := tokL_tot hl
    rw [hl] at hT HP
    obtain ⟨A, c, rfl, hr1, hlc, hln, hcm, hfr, hx1⟩ := hT
    have hcs := chars_len s
    have htl : tot l ≤ 400000000 := by omega
    have hll : l.length ≤ 100000000 := by omega
    have HP2 : Hid (parseF s.data.toList = parseT l) := HP
    have hb1 := hbg.ext hx1
    have hk1 := hbk.ext hx1
    have hx01 := hx0.trans hx1
    have hs1 : w.heap.size + 2 ≤ w1.heap.size := by rw [← HS0.out]; exact hx1.size
    have HFR : Hid (∀ a, A = some a → w.heap.size + 2 ≤ a.block) := Lib.hid (by rw [← HS0.out]; exact hfr)
    clear hbg hbk hx0 hx1 HS0 HP hl htot hcs hfr
    go_wp2_with fail
    refine (index_parse _ _ _ _ hr1 (by omega)).mono ?_; rintro e w2 ⟨rfl, hx2⟩
    have hb2 := hb1.ext hx2
    have hk2 := hk1.ext hx2
    have hr2 := hr1.below hx2 (Nat.le_refl _)
    have hx02 := hx01.trans hx2
    have hs2 := Nat.le_trans hs1 hx2.size
    clear hb1 hk1 hr1 hx01 hs1 hx2
    by_cases hi : 0 ≤ idxF (isK 5) l
    · have hfl := idxF_lt _ _ hi
      have HF : Hid (idxF (isK 5) l = ((idxF (isK 5) l).toNat : Int)) := Lib.hid (by omega)
      have HP2b : Hid (parseF s.data.toList = if cntK 5 l = 1 then halves (l.take (idxF (isK 5) l).toNat) (l.drop ((idxF (isK 5) l).toNat + 1)) true else .error 2) := Lib.hid (by rw [HP2.out]; unfold parseT; rw [if_pos hi])
      generalize (idxF (isK 5) l).toNat = f at *
      generalize idxF (isK 5) l = ix at *
      obtain ⟨b, off, rfl, -, -⟩ := row_pc hr2 hfl
      have hi2 : ¬ ix < 0 := by omega
      have hi' := hi
      clear hi HP2
      go_wp2_with fail
      refine (count_ _ _ _ _ _ hr2 (by omega)).mono ?_; rintro e w2' ⟨rfl, hxc⟩
      have hb2' := hb2.ext hxc
      have hk2' := hk2.ext hxc
      have hr2' := hr2.below hxc (Nat.le_refl _)
      have hx02' := hx02.trans hxc
      have hs2' := Nat.le_trans hs2 hxc.size
      clear hb2 hk2 hr2 hx02 hs2 hxc
      have hb2 := hb2'
      have hk2 := hk2'
      have hr2 := hr2'
      have hx02 := hx02'
      have hs2 := hs2'
      clear hb2' hk2' hr2' hx02' hs2'
      by_cases hcn : cntK 5 l = 1
      · have HP3 : Hid (parseF s.data.toList = halves (l.take f) (l.drop (f + 1)) true) := Lib.hid (by rw [HP2b.out, if_pos hcn])
        rw [hcn]
        clear hcn HP2b
        go_wp2_with fail
        refine (must_ok _).mono ?_; rintro e w2'' ⟨rfl, rfl⟩
        go_upto_region 7 with fail
        go_cut [6, 7] from 12 to 30 (fun u v wx => ∃ (nA cA : Nat) (AB : Option Addr) (nB cB : Nat), u = .slice (some ⟨b, off, none⟩) nA cA ∧ v = .slice AB nB cB ∧ Hid ((l.take f).length = nA ∧ nA ≤ cA ∧ (l.drop (f + 1)).length = nB ∧ nB ≤ cB ∧ ∀ W, Row W (some ⟨b, off, none⟩) (pcsV l) → Row W AB (pcsV (l.drop (f + 1)))) ∧ Ext w2' wx)
        case first =>
          have hix := HF.out
          subst hix
          have hi1 : (0 : Int) ≤ (f : Int) := by omega
          have hi3 : (f : Int) ≤ (c : Int) := by omega
          have hi4 : (f : Int) ≤ (l.length : Int) := by omega
          have hi5 : f ≤ c := by omega
          have hi6 : f + 1 ≤ c := by omega
          have hi7 : (f : Int) + 1 ≤ (c : Int) := by omega
          have hi8 : (f : Int) + 1 ≤ (l.length : Int) := by omega
          have hi9 : ((f : Int) + 1).toNat = f + 1 := by omega
          have hi10 : (0 : Int) ≤ (f : Int) + 1 := by omega
          have hi11 : IntKind.i64.wrap ((f : Int) + 1) = (f : Int) + 1 := IntWalk.i64_in _ (by omega)
          have e1 : (l.take f).length = f := by simp; omega
          have e2 : (l.drop (f + 1)).length = l.length - (f + 1) := by simp
          have E1 := Lib.hid e1
          have E2 := Lib.hid e2
          clear e1 e2
          by_cases hct : c = f + 1
          · have HLF : Hid (l.length = f + 1) := Lib.hid (by omega)
            clear hi3 hi5 hi6 hi7
            subst hct
            go_region
            go_wp2_with fail
            go_meet
            clear hi1 hi4 hi8 hi9 hi10 hi11
            exact ⟨f, f + 1, _, 0, 0, rfl, rfl, Lib.hid ⟨E1.out, Nat.le_succ f, by rw [E2.out, HLF.out, Nat.sub_self], Nat.le_refl _, fun W _ => by rw [List.drop_of_length_le (by rw [HLF.out]; exact Nat.le_refl _)]; exact Row.nil⟩, Ext.drew_ (Ext.refl _)⟩
          · go_region
            go_wp2_with fail
            go_meet
            clear hi1 hi3 hi4 hi7 hi8 hi9 hi10 hi11
            exact ⟨f, c, _, _, _, rfl, rfl, Lib.hid ⟨E1.out, hi5, E2.out, by omega, fun W hW => row_drop hW (f + 1)⟩, Ext.drew_ (Ext.refl _)⟩
        case rest =>
          obtain ⟨nA, cA, AB, nB, cB, rfl, rfl, HAB, hxc2⟩ := hcut
          have hb2d := hb2.ext hxc2
          have hk2d := hk2.ext hxc2
          have hr2d := hr2.below hxc2 (Nat.le_refl _)
          have hx02d := hx02.trans hxc2
          have hs2d := Nat.le_trans hs2 hxc2.size
          clear hb2 hk2 hr2 hx02 hs2 hxc2
          have hb2 := hb2d
          have hk2 := hk2d
          have hr2 := hr2d
          have hx02 := hx02d
          have hs2 := hs2d
          clear hb2d hk2d hr2d hx02d hs2d HF hi' hfl
          go_wp2_with fail
          refine (half_n _ _ _ (l.take f) _ (HAB.out.1) (row_take hr2 f) (by simp; omega) (Nat.le_trans (tot_take _ _) (by omega)) (HAB.out.2.1)).mono ?_
          intro e w3 hN1
          cases h1 : halfF (l.take f) with
          | none =>
            rw [h1] at hN1
            obtain ⟨rfl, hx3⟩ := hN1
            have HP4 : Hid (parseF s.data.toList = .error 2) := Lib.hid (by rw [HP3.out, halves_no1 h1])
            go_wp2_with fail
            refine fails_ (v := w) (hb2.ext hx3) rfl (hk2.ext hx3) (by omega) (hx02.trans hx3) (Nat.le_refl _) (by omega) rfl rfl fun w' hw => ?_
            rw [HP4.out]
            exact ⟨rfl, hw⟩
          | some r1 =>
            obtain ⟨p1, s1, n1, b1⟩ := r1
            have H1 := Lib.hid h1
            have hlen1 := halfF_len h1
            rw [h1] at hN1
            obtain ⟨A1, c1, B1, d1, rfl, ra, rb, fa, fb, la, oa, lb, ob, hx3⟩ := hN1
            have hb3 := Lib.hid (hb2.ext hx3)
            have HK3 := Lib.hid (hk2.ext hx3)
            have hsz3 := hx3.size
            have RA3 := Lib.hid ra
            have RB3 := Lib.hid rb
            have HX3 := Lib.hid (hx02.trans hx3)
            have HR3 : Hid (Row w3 (some ⟨b, off, none⟩) (pcsV l)) := Lib.hid (hr2.below hx3 (Nat.le_refl _))
            clear h1 ra rb hx02 hx3 hr2 hb2 hk2
            go_wp2_with (refine wpList_store_row rfl 28 (.tmp 2) (.tmp 34) rfl w.heap.size (patC (.slice A1 p1.length c1) (.slice B1 s1.length d1) nilS nilS n1).toArray rfl rfl _ _ hb3.out infoPat rfl pat_one ?_)
            have hb4 := hb3.out.set (patC (.slice A1 p1.length c1) (.slice B1 s1.length d1) nilS nilS n1).toArray
            have hk4 := HK3.out.other (show w.heap.size + 1 ≠ w.heap.size by omega) (patC (.slice A1 p1.length c1) (.slice B1 s1.length d1) nilS nilS n1).toArray
            have ra4 := Row.setRow (g := w.heap.size) (ds := (patC (.slice A1 p1.length c1) (.slice B1 s1.length d1) nilS nilS n1).toArray) RA3.out (fun b' off' e => by have := fa _ e; dsimp only at this; omega)
            have rb4 := Row.setRow (g := w.heap.size) (ds := (patC (.slice A1 p1.length c1) (.slice B1 s1.length d1) nilS nilS n1).toArray) RB3.out (fun b' off' e => by have := fb _ e; dsimp only at this; omega)
            have hr4 := Row.setRow (g := w.heap.size) (ds := (patC (.slice A1 p1.length c1) (.slice B1 s1.length d1) nilS nilS n1).toArray) HR3.out (fun b' off' e => by have := HFR.out _ e; dsimp only at this; omega)
            have hx4 := Ext.setRow HX3.out (Nat.le_refl _) (patC (.slice A1 p1.length c1) (.slice B1 s1.length d1) nilS nilS n1).toArray
            have hs4 : (w3.setRow w.heap.size (patC (.slice A1 p1.length c1) (.slice B1 s1.length d1) nilS nilS n1).toArray).heap.size = w3.heap.size := by simp
            generalize w3.setRow w.heap.size (patC (.slice A1 p1.length c1) (.slice B1 s1.length d1) nilS nilS n1).toArray = w4 at *
            have hs5 : w.heap.size + 2 ≤ w4.heap.size := by omega
            clear hb3 HK3 RA3 RB3 HX3 HR3 hs4 hsz3
            refine (half_n _ _ _ (l.drop (f + 1)) _ (HAB.out.2.2.1) (HAB.out.2.2.2.2 _ hr4) (by simp; omega) (Nat.le_trans (tot_drop _ _) (by omega)) (HAB.out.2.2.2.1)).mono ?_
            intro e w5 hN2
            cases h2 : halfF (l.drop (f + 1)) with
            | none =>
              rw [h2] at hN2
              obtain ⟨rfl, hx5⟩ := hN2
              have HP4 : Hid (parseF s.data.toList = .error 2) := Lib.hid (by rw [HP3.out, halves_no2 H1.out h2])
              go_wp2_with fail
              refine fails_ (v := w) (hb4.ext hx5) rfl (hk4.ext hx5) (by omega) (hx4.trans hx5) (Nat.le_refl _) (by omega) rfl rfl fun w' hw => ?_
              rw [HP4.out]
              exact ⟨rfl, hw⟩
            | some r2 =>
              obtain ⟨p2, s2, n2, b2⟩ := r2
              have HP4 : Hid (parseF s.data.toList = if b1 && b2 then .ok (if true then ⟨p1, s1, p2, s2, n1⟩ else ⟨p1, s1, (3, []) :: p1, s1, n1⟩) else .error 3) := Lib.hid (by rw [HP3.out, halves_ok H1.out h2])
              rw [h2] at hN2
              obtain ⟨A2, c2, B2, d2, rfl, rc, rd, fc, fd, lc, oc, ld, od, hx5⟩ := hN2
              have HB5 := Lib.hid (hb4.ext hx5)
              have HK5 := Lib.hid (hk4.ext hx5)
              have RA5 := Lib.hid (ra4.below hx5 (Nat.le_refl _))
              have RB5 := Lib.hid (rb4.below hx5 (Nat.le_refl _))
              have RC5 := Lib.hid rc
              have RD5 := Lib.hid rd
              have HX5 := Lib.hid (hx4.trans hx5)
              have hs6 := Nat.le_trans hs5 hx5.size
              clear h2 rc rd hx4 hx5 ra4 rb4 hr4 hb4 hk4 HP3 H1
              by_cases hbb : (b1 && b2) = true
              · obtain ⟨rfl, rfl⟩ : b1 = true ∧ b2 = true := by simpa using hbb
                clear hbb
                have HI2 := Lib.hid hi2
                clear hi2 hll hln hcm htl hlc HFR hlen1 HAB
                have hxa := Ext.alloc_ (Ext.refl w5) (.cells (patC (.slice A2 p2.length c2) (.slice B2 s2.length d2) nilS nilS n2).toArray 28)
                have hb6 := HB5.out.alloc (.cells (patC (.slice A2 p2.length c2) (.slice B2 s2.length d2) nilS nilS n2).toArray 28)
                have hk6 := HK5.out.alloc (.cells (patC (.slice A2 p2.length c2) (.slice B2 s2.length d2) nilS nilS n2).toArray 28)
                have hb9 := Box.new w5 28 (patC (.slice A2 p2.length c2) (.slice B2 s2.length d2) nilS nilS n2)
                have ra6 := Lib.hid (RA5.out.below hxa (Nat.le_refl _))
                have rb6 := Lib.hid (RB5.out.below hxa (Nat.le_refl _))
                have rc6 := Lib.hid (RC5.out.below hxa (Nat.le_refl _))
                have rd6 := Lib.hid (RD5.out.below hxa (Nat.le_refl _))
                have hx6 := Lib.hid (HX5.out.trans hxa)
                clear hxa HB5 HK5 RA5 RB5 RC5 RD5 HX5
                go_wp2_with (refine wpList_store_fresh rfl 28 (.tmp 9) (.tmp 39) rfl (patC (.slice A2 p2.length c2) (.slice B2 s2.length d2) nilS nilS n2).toArray 28 _ rfl rfl infoPat rfl pat_one ?_)
                generalize w5.alloc (.cells (patC (.slice A2 p2.length c2) (.slice B2 s2.length d2) nilS nilS n2).toArray 28) = w6 at *
                generalize w5.heap.size = t9 at *
                have q0 := hb9.cell (j := 0) (v := .slice A2 p2.length c2) rfl
                have q1 := hb9.cell (j := 1) (v := .slice B2 s2.length d2) rfl
                have q2 := hb6.cell (j := 2) (v := .slice none 0 0) rfl
                have q3 := hb6.cell (j := 3) (v := .slice none 0 0) rfl
                have u2 := hb6.frozen 2
                have u3 := hb6.frozen 3
                have hne9 : t9 ≠ w.heap.size := by omega
                go_region
                have hb7 : Box ((w6.setCell ⟨w.heap.size, 2, none⟩ (.slice A2 p2.length c2)).setCell ⟨w.heap.size, 3, none⟩ (.slice B2 s2.length d2)).drew w.heap.size 28 (patC (.slice A1 p1.length c1) (.slice B1 s1.length d1) (.slice A2 p2.length c2) (.slice B2 s2.length d2) n1) := ((hb6.setCell 2 (.slice A2 p2.length c2)).setCell 3 (.slice B2 s2.length d2)).drew
                have hk7 := ((hk6.setCell1 w.heap.size (.slice A2 p2.length c2) (by omega) 2).setCell1 w.heap.size (.slice B2 s2.length d2) (by omega) 3).drew
                have o7 : Only2 w.heap.size w6 ((w6.setCell ⟨w.heap.size, 2, none⟩ (.slice A2 p2.length c2)).setCell ⟨w.heap.size, 3, none⟩ (.slice B2 s2.length d2)).drew := (((Only2.of_ext (Ext.refl w6)).setCell 2 (.slice A2 p2.length c2) (by omega)).setCell 3 (.slice B2 s2.length d2) (by omega)).drew
                have ra7 := Lib.hid (Row.only2 ra6.out o7 fa hs2)
                have rb7 := Lib.hid (Row.only2 rb6.out o7 fb hs2)
                have rc7 := Lib.hid (Row.only2 rc6.out o7 fc hs5)
                have rd7 := Lib.hid (Row.only2 rd6.out o7 fd hs5)
                have hx7 := Lib.hid (Ext.drew_ (Ext.setCell_ (Ext.setCell_ hx6.out (Nat.le_refl _) 2 (.slice A2 p2.length c2)) (Nat.le_refl _) 3 (.slice B2 s2.length d2)))
                have hs7 : w.heap.size + 2 ≤ (((w6.setCell ⟨w.heap.size, 2, none⟩ (.slice A2 p2.length c2)).setCell ⟨w.heap.size, 3, none⟩ (.slice B2 s2.length d2)).drew).heap.size := Nat.le_trans (Nat.le_trans hs6 (Nat.le_of_lt hb9.lt)) o7.1
                generalize ((w6.setCell ⟨w.heap.size, 2, none⟩ (.slice A2 p2.length c2)).setCell ⟨w.heap.size, 3, none⟩ (.slice B2 s2.length d2)).drew = w7 at *
                clear ra6 rb6 rc6 rd6 hx6 o7 hb6 hk6 hb9 q0 q1 q2 q3 u2 u3 hne9
                have hi2 := HI2.out
                have HP6 : Hid (parseF s.data.toList = .ok ⟨p1, s1, p2, s2, n1⟩) := HP4
                have HR9 := Lib.hid hb7.range
                have HB9 := Lib.hid hb7
                have hkc := (hk7.other (show w.heap.size + 1 ≠ w.heap.size by omega) (patC (.slice A1 p1.length c1) (.slice B1 s1.length d1) (.slice A2 p2.length c2) (.slice B2 s2.length d2) n1).toArray).cell (j := 0) (v := .int .i64 0) rfl
                have hkf := (hk7.other (show w.heap.size + 1 ≠ w.heap.size by omega) (patC (.slice A1 p1.length c1) (.slice B1 s1.length d1) (.slice A2 p2.length c2) (.slice B2 s2.length d2) n1).toArray).frozen 0
                have hbz := Lib.hid ((hb7.set (patC (.slice A1 p1.length c1) (.slice B1 s1.length d1) (.slice A2 p2.length c2) (.slice B2 s2.length d2) n1).toArray).setCell1 (w.heap.size + 1) (.int .i64 0) (by omega) 0)
                have hkz := Lib.hid ((hk7.other (show w.heap.size + 1 ≠ w.heap.size by omega) (patC (.slice A1 p1.length c1) (.slice B1 s1.length d1) (.slice A2 p2.length c2) (.slice B2 s2.length d2) n1).toArray).setCell 0 (.int .i64 0))
                have oz := Lib.hid (((Only2.of_ext (g := w.heap.size) (Ext.refl w7)).setRow (patC (.slice A1 p1.length c1) (.slice B1 s1.length d1) (.slice A2 p2.length c2) (.slice B2 s2.length d2) n1).toArray (show w.heap.size < w.heap.size + 2 by omega)).setCell 0 (.int .i64 0) (show w.heap.size + 1 < w.heap.size + 2 by omega))
                have hxz := Lib.hid (Ext.setCell_ (Ext.setRow hx7.out (Nat.le_refl _) (patC (.slice A1 p1.length c1) (.slice B1 s1.length d1) (.slice A2 p2.length c2) (.slice B2 s2.length d2) n1).toArray) (show w.heap.size ≤ w.heap.size + 1 by omega) 0 (.int .i64 0))
                clear hb7 hk7
                go_wp2_with (first
                  | (refine wpList_load_mid rfl 28 (.tmp 2) rfl w.heap.size 0 rfl (patC (.slice A1 p1.length c1) (.slice B1 s1.length d1) (.slice A2 p2.length c2) (.slice B2 s2.length d2) n1) _ HR9.out Tryz.underlying28 rfl infoPat ?_)
                  | (refine wpList_store_row rfl 28 (.tmp 2) (.tmp 63) rfl w.heap.size (patC (.slice A1 p1.length c1) (.slice B1 s1.length d1) (.slice A2 p2.length c2) (.slice B2 s2.length d2) n1).toArray rfl rfl _ _ HB9.out infoPat rfl pat_one ?_))
                refine ends_ hbz.out rfl hkz.out rfl rfl ?_
                rw [HP6.out]
                exact ⟨A1, c1, B1, d1, A2, c2, B2, d2, rfl, Row.only2 ra7.out oz.out fa hs2, Row.only2 rb7.out oz.out fb hs2, Row.only2 rc7.out oz.out fc hs5, Row.only2 rd7.out oz.out fd hs5, oa, ob, oc, od, hxz.out⟩
              · have HP5 : Hid (parseF s.data.toList = .error 3) := Lib.hid (by rw [HP4.out, if_neg hbb])
                have HB6 := HB5.out.alloc (.cells (patC (.slice A2 p2.length c2) (.slice B2 s2.length d2) nilS nilS n2).toArray 28)
                have HK6 := HK5.out.alloc (.cells (patC (.slice A2 p2.length c2) (.slice B2 s2.length d2) nilS nilS n2).toArray 28)
                have HX6 := HX5.out.alloc_ (.cells (patC (.slice A2 p2.length c2) (.slice B2 s2.length d2) nilS nilS n2).toArray 28)
                have HB7 := Lib.hid HB6
                have hkc := (HK6.other (show w.heap.size + 1 ≠ w.heap.size by omega) (patC nilS nilS nilS nilS zeroN).toArray).cell (j := 0) (v := .int .i64 0) rfl
                have hkf := (HK6.other (show w.heap.size + 1 ≠ w.heap.size by omega) (patC nilS nilS nilS nilS zeroN).toArray).frozen 0
                have hb8 := Lib.hid (((HB6.set (patC nilS nilS nilS nilS zeroN).toArray)).setCell1 (w.heap.size + 1) (.int .i64 3) (by omega) 0)
                have hk8 := Lib.hid ((HK6.other (show w.heap.size + 1 ≠ w.heap.size by omega) (patC nilS nilS nilS nilS zeroN).toArray).setCell 0 (.int .i64 3))
                have hx8 := Lib.hid (Ext.setCell_ (Ext.setRow HX6 (Nat.le_refl _) (patC nilS nilS nilS nilS zeroN).toArray) (show w.heap.size ≤ w.heap.size + 1 by omega) 0 (.int .i64 3))
                clear HB6 HK6 HX6 HP4
                have hb3 : (b1 = false ∧ b2 = false) ∨ (b1 = false ∧ b2 = true) ∨ (b1 = true ∧ b2 = false) := by cases b1 <;> cases b2 <;> simp_all
                clear hbb
                rcases hb3 with ⟨rfl, rfl⟩ | ⟨rfl, rfl⟩ | ⟨rfl, rfl⟩
                all_goals
                  go_wp2_with (first | (refine wpList_store_fresh rfl 28 (.tmp 9) (.tmp 39) rfl (patC (.slice A2 p2.length c2) (.slice B2 s2.length d2) nilS nilS n2).toArray 28 _ rfl rfl infoPat rfl pat_one ?_) | (refine wpList_store_row rfl 28 (.tmp 2) (.tmp 47) rfl w.heap.size (patC nilS nilS nilS nilS zeroN).toArray rfl rfl _ _ HB7.out infoPat rfl pat_one ?_))
                  refine ends_ hb8.out rfl hk8.out rfl rfl ?_
                  rw [HP5.out]
                  exact ⟨rfl, hx8.out⟩
      · have HP3 : Hid (parseF s.data.toList = .error 2) := Lib.hid (by rw [HP2b.out, if_neg hcn])
        have HD : Hid ((((cntK 5 l : Nat) : Int) == 1) = false) := Lib.hid (by simp; omega)
        clear hcn
        go_wp2_with fail
        rw [HD.out]
        refine (must_no _).mono ?_; rintro e w2'' ⟨rfl, rfl⟩
        go_wp2_with fail
        refine fails_ (v := w) hb2 rfl hk2 (by omega) hx02 (Nat.le_refl _) (by omega) rfl rfl fun w' hw => ?_
        rw [HP3.out]
        exact ⟨rfl, hw⟩
    · have HP3 : Hid (parseF s.data.toList = halves l l false) := Lib.hid (by rw [HP2.out]; unfold parseT; rw [if_neg hi])
      have hi2 : idxF (isK 5) l < 0 := by omega
      generalize idxF (isK 5) l = ix at *
      clear hi HP2
      go_wp2_with fail
      refine (half_n _ _ _ (l) _ (rfl) (hr2) (by skip; omega) (Nat.le_trans (Nat.le_refl _) (by omega)) (hlc)).mono ?_
      intro e w3 hN1
      cases h1 : halfF (l) with
      | none =>
        rw [h1] at hN1
        obtain ⟨rfl, hx3⟩ := hN1
        have HP4 : Hid (parseF s.data.toList = .error 2) := Lib.hid (by rw [HP3.out, halves_no1 h1])
        go_wp2_with fail
        refine fails_ (v := w) (hb2.ext hx3) rfl (hk2.ext hx3) (by omega) (hx02.trans hx3) (Nat.le_refl _) (by omega) rfl rfl fun w' hw => ?_
        rw [HP4.out]
        exact ⟨rfl, hw⟩
      | some r1 =>
        obtain ⟨p1, s1, n1, b1⟩ := r1
        have H1 := Lib.hid h1
        have hlen1 := halfF_len h1
        rw [h1] at hN1
        obtain ⟨A1, c1, B1, d1, rfl, ra, rb, fa, fb, la, oa, lb, ob, hx3⟩ := hN1
        have hb3 := Lib.hid (hb2.ext hx3)
        have HK3 := Lib.hid (hk2.ext hx3)
        have hsz3 := hx3.size
        have RA3 := Lib.hid ra
        have RB3 := Lib.hid rb
        have HX3 := Lib.hid (hx02.trans hx3)
        have HR3 : Hid (Row w3 A (pcsV l)) := Lib.hid (hr2.below hx3 (Nat.le_refl _))
        clear h1 ra rb hx02 hx3 hr2 hb2 hk2
        go_wp2_with (refine wpList_store_row rfl 28 (.tmp 2) (.tmp 34) rfl w.heap.size (patC (.slice A1 p1.length c1) (.slice B1 s1.length d1) nilS nilS n1).toArray rfl rfl _ _ hb3.out infoPat rfl pat_one ?_)
        have hb4 := hb3.out.set (patC (.slice A1 p1.length c1) (.slice B1 s1.length d1) nilS nilS n1).toArray
        have hk4 := HK3.out.other (show w.heap.size + 1 ≠ w.heap.size by omega) (patC (.slice A1 p1.length c1) (.slice B1 s1.length d1) nilS nilS n1).toArray
        have ra4 := Row.setRow (g := w.heap.size) (ds := (patC (.slice A1 p1.length c1) (.slice B1 s1.length d1) nilS nilS n1).toArray) RA3.out (fun b' off' e => by have := fa _ e; dsimp only at this; omega)
        have rb4 := Row.setRow (g := w.heap.size) (ds := (patC (.slice A1 p1.length c1) (.slice B1 s1.length d1) nilS nilS n1).toArray) RB3.out (fun b' off' e => by have := fb _ e; dsimp only at this; omega)
        have hr4 := Row.setRow (g := w.heap.size) (ds := (patC (.slice A1 p1.length c1) (.slice B1 s1.length d1) nilS nilS n1).toArray) HR3.out (fun b' off' e => by have := HFR.out _ e; dsimp only at this; omega)
        have hx4 := Ext.setRow HX3.out (Nat.le_refl _) (patC (.slice A1 p1.length c1) (.slice B1 s1.length d1) nilS nilS n1).toArray
        have hs4 : (w3.setRow w.heap.size (patC (.slice A1 p1.length c1) (.slice B1 s1.length d1) nilS nilS n1).toArray).heap.size = w3.heap.size := by simp
        generalize w3.setRow w.heap.size (patC (.slice A1 p1.length c1) (.slice B1 s1.length d1) nilS nilS n1).toArray = w4 at *
        have hs5 : w.heap.size + 2 ≤ w4.heap.size := by omega
        clear hb3 HK3 RA3 RB3 HX3 HR3 hs4 hsz3
        refine (half_n _ _ _ (l) _ (rfl) (hr4) (by skip; omega) (Nat.le_trans (Nat.le_refl _) (by omega)) (hlc)).mono ?_
        intro e w5 hN2
        cases h2 : halfF (l) with
        | none =>
          rw [h2] at hN2
          obtain ⟨rfl, hx5⟩ := hN2
          have HP4 : Hid (parseF s.data.toList = .error 2) := Lib.hid (by rw [HP3.out, halves_no2 H1.out h2])
          go_wp2_with fail
          refine fails_ (v := w) (hb4.ext hx5) rfl (hk4.ext hx5) (by omega) (hx4.trans hx5) (Nat.le_refl _) (by omega) rfl rfl fun w' hw => ?_
          rw [HP4.out]
          exact ⟨rfl, hw⟩
        | some r2 =>
          obtain ⟨p2, s2, n2, b2⟩ := r2
          have HP4 : Hid (parseF s.data.toList = if b1 && b2 then .ok (if false then ⟨p1, s1, p2, s2, n1⟩ else ⟨p1, s1, (3, []) :: p1, s1, n1⟩) else .error 3) := Lib.hid (by rw [HP3.out, halves_ok H1.out h2])
          rw [h2] at hN2
          obtain ⟨A2, c2, B2, d2, rfl, rc, rd, fc, fd, lc, oc, ld, od, hx5⟩ := hN2
          have HB5 := Lib.hid (hb4.ext hx5)
          have HK5 := Lib.hid (hk4.ext hx5)
          have RA5 := Lib.hid (ra4.below hx5 (Nat.le_refl _))
          have RB5 := Lib.hid (rb4.below hx5 (Nat.le_refl _))
          have RC5 := Lib.hid rc
          have RD5 := Lib.hid rd
          have HX5 := Lib.hid (hx4.trans hx5)
          have hs6 := Nat.le_trans hs5 hx5.size
          clear h2 rc rd hx4 hx5 ra4 rb4 hr4 hb4 hk4 HP3 H1
          by_cases hbb : (b1 && b2) = true
          · obtain ⟨rfl, rfl⟩ : b1 = true ∧ b2 = true := by simpa using hbb
            clear hbb
            skip
            have hxa := Ext.alloc_ (Ext.refl w5) (.cells (patC (.slice A2 p2.length c2) (.slice B2 s2.length d2) nilS nilS n2).toArray 28)
            have hb6 := HB5.out.alloc (.cells (patC (.slice A2 p2.length c2) (.slice B2 s2.length d2) nilS nilS n2).toArray 28)
            have hk6 := HK5.out.alloc (.cells (patC (.slice A2 p2.length c2) (.slice B2 s2.length d2) nilS nilS n2).toArray 28)
            have hb9 := Box.new w5 28 (patC (.slice A2 p2.length c2) (.slice B2 s2.length d2) nilS nilS n2)
            have ra6 := Lib.hid (RA5.out.below hxa (Nat.le_refl _))
            have rb6 := Lib.hid (RB5.out.below hxa (Nat.le_refl _))
            have rc6 := Lib.hid (RC5.out.below hxa (Nat.le_refl _))
            have rd6 := Lib.hid (RD5.out.below hxa (Nat.le_refl _))
            have hx6 := Lib.hid (HX5.out.trans hxa)
            clear hxa HB5 HK5 RA5 RB5 RC5 RD5 HX5
            go_wp2_with (refine wpList_store_fresh rfl 28 (.tmp 9) (.tmp 39) rfl (patC (.slice A2 p2.length c2) (.slice B2 s2.length d2) nilS nilS n2).toArray 28 _ rfl rfl infoPat rfl pat_one ?_)
            generalize w5.alloc (.cells (patC (.slice A2 p2.length c2) (.slice B2 s2.length d2) nilS nilS n2).toArray 28) = w6 at *
            generalize w5.heap.size = t9 at *
            have q0 := hb9.cell (j := 0) (v := .slice A2 p2.length c2) rfl
            have q1 := hb9.cell (j := 1) (v := .slice B2 s2.length d2) rfl
            have q2 := hb6.cell (j := 2) (v := .slice none 0 0) rfl
            have q3 := hb6.cell (j := 3) (v := .slice none 0 0) rfl
            have u2 := hb6.frozen 2
            have u3 := hb6.frozen 3
            have hne9 : t9 ≠ w.heap.size := by omega
            go_region
            have hb7 : Box ((w6.setCell ⟨w.heap.size, 2, none⟩ (.slice A2 p2.length c2)).setCell ⟨w.heap.size, 3, none⟩ (.slice B2 s2.length d2)).drew w.heap.size 28 (patC (.slice A1 p1.length c1) (.slice B1 s1.length d1) (.slice A2 p2.length c2) (.slice B2 s2.length d2) n1) := ((hb6.setCell 2 (.slice A2 p2.length c2)).setCell 3 (.slice B2 s2.length d2)).drew
            have hk7 := ((hk6.setCell1 w.heap.size (.slice A2 p2.length c2) (by omega) 2).setCell1 w.heap.size (.slice B2 s2.length d2) (by omega) 3).drew
            have o7 : Only2 w.heap.size w6 ((w6.setCell ⟨w.heap.size, 2, none⟩ (.slice A2 p2.length c2)).setCell ⟨w.heap.size, 3, none⟩ (.slice B2 s2.length d2)).drew := (((Only2.of_ext (Ext.refl w6)).setCell 2 (.slice A2 p2.length c2) (by omega)).setCell 3 (.slice B2 s2.length d2) (by omega)).drew
            have ra7 := Lib.hid (Row.only2 ra6.out o7 fa hs2)
            have rb7 := Lib.hid (Row.only2 rb6.out o7 fb hs2)
            have rc7 := Lib.hid (Row.only2 rc6.out o7 fc hs5)
            have rd7 := Lib.hid (Row.only2 rd6.out o7 fd hs5)
            have hx7 := Lib.hid (Ext.drew_ (Ext.setCell_ (Ext.setCell_ hx6.out (Nat.le_refl _) 2 (.slice A2 p2.length c2)) (Nat.le_refl _) 3 (.slice B2 s2.length d2)))
            have hs7 : w.heap.size + 2 ≤ (((w6.setCell ⟨w.heap.size, 2, none⟩ (.slice A2 p2.length c2)).setCell ⟨w.heap.size, 3, none⟩ (.slice B2 s2.length d2)).drew).heap.size := Nat.le_trans (Nat.le_trans hs6 (Nat.le_of_lt hb9.lt)) o7.1
            generalize ((w6.setCell ⟨w.heap.size, 2, none⟩ (.slice A2 p2.length c2)).setCell ⟨w.heap.size, 3, none⟩ (.slice B2 s2.length d2)).drew = w7 at *
            clear ra6 rb6 rc6 rd6 hx6 o7 hb6 hk6 hb9 q0 q1 q2 q3 u2 u3 hne9
            have HP6 : Hid (parseF s.data.toList = .ok ⟨p1, s1, (3, []) :: p1, s1, n1⟩) := HP4
            have HR7 := Lib.hid hb7.range
            go_wp2_with (refine wpList_load_mid rfl 28 (.tmp 2) rfl w.heap.size 0 rfl (patC (.slice A1 p1.length c1) (.slice B1 s1.length d1) (.slice A2 p2.length c2) (.slice B2 s2.length d2) n1) _ HR7.out Tryz.underlying28 rfl infoPat ?_)
            refine (plain_ A1 B1 c1 d1 p1 s1 _ _ n1 _ ra7.out rb7.out oa ob (by omega) (by omega)).mono ?_
            rintro e w8 ⟨A3, c3, B3, d3, rfl, rc, rd, fc3, fd3, -, oc3, -, od3, hx8⟩
            have hb8 := hb7.ext hx8
            have hk8 := hk7.ext hx8
            have q2 := hb8.cell (j := 2) (v := .slice A2 p2.length c2) rfl
            have q3 := hb8.cell (j := 3) (v := .slice B2 s2.length d2) rfl
            have u2 := hb8.frozen 2
            have u3 := hb8.frozen 3
            have ra8 := ra7.out.below hx8 (Nat.le_refl _)
            have rb8 := rb7.out.below hx8 (Nat.le_refl _)
            have hx08 := hx7.out.trans hx8
            have hb9 : Box ((w8.setCell ⟨w.heap.size, 2, none⟩ (.slice A3 (p1.length + 1) c3)).setCell ⟨w.heap.size, 3, none⟩ (.slice B3 s1.length d3)) w.heap.size 28 (patC (.slice A1 p1.length c1) (.slice B1 s1.length d1) (.slice A3 (p1.length + 1) c3) (.slice B3 s1.length d3) n1) := (hb8.setCell 2 (.slice A3 (p1.length + 1) c3)).setCell 3 (.slice B3 s1.length d3)
            have hk9 := (hk8.setCell1 w.heap.size (.slice A3 (p1.length + 1) c3) (by omega) 2).setCell1 w.heap.size (.slice B3 s1.length d3) (by omega) 3
            have HR9 := Lib.hid hb9.range
            have HB9 := Lib.hid hb9
            have hkc := (hk9.other (show w.heap.size + 1 ≠ w.heap.size by omega) (patC (.slice A1 p1.length c1) (.slice B1 s1.length d1) (.slice A3 (p1.length + 1) c3) (.slice B3 s1.length d3) n1).toArray).cell (j := 0) (v := .int .i64 0) rfl
            have hkf := (hk9.other (show w.heap.size + 1 ≠ w.heap.size by omega) (patC (.slice A1 p1.length c1) (.slice B1 s1.length d1) (.slice A3 (p1.length + 1) c3) (.slice B3 s1.length d3) n1).toArray).frozen 0
            have hbz := Lib.hid ((hb9.set (patC (.slice A1 p1.length c1) (.slice B1 s1.length d1) (.slice A3 (p1.length + 1) c3) (.slice B3 s1.length d3) n1).toArray).setCell1 (w.heap.size + 1) (.int .i64 0) (by omega) 0)
            have hkz := Lib.hid ((hk9.other (show w.heap.size + 1 ≠ w.heap.size by omega) (patC (.slice A1 p1.length c1) (.slice B1 s1.length d1) (.slice A3 (p1.length + 1) c3) (.slice B3 s1.length d3) n1).toArray).setCell 0 (.int .i64 0))
            have oz := Lib.hid (((((Only2.of_ext (g := w.heap.size) (Ext.refl w8)).setCell 2 (.slice A3 (p1.length + 1) c3) (show w.heap.size < w.heap.size + 2 by omega)).setCell 3 (.slice B3 s1.length d3) (show w.heap.size < w.heap.size + 2 by omega)).setRow (patC (.slice A1 p1.length c1) (.slice B1 s1.length d1) (.slice A3 (p1.length + 1) c3) (.slice B3 s1.length d3) n1).toArray (show w.heap.size < w.heap.size + 2 by omega)).setCell 0 (.int .i64 0) (show w.heap.size + 1 < w.heap.size + 2 by omega))
            have hxz := Lib.hid (Ext.setCell_ (Ext.setRow (Ext.setCell_ (Ext.setCell_ hx08 (Nat.le_refl _) 2 (.slice A3 (p1.length + 1) c3)) (Nat.le_refl _) 3 (.slice B3 s1.length d3)) (Nat.le_refl _) (patC (.slice A1 p1.length c1) (.slice B1 s1.length d1) (.slice A3 (p1.length + 1) c3) (.slice B3 s1.length d3) n1).toArray) (show w.heap.size ≤ w.heap.size + 1 by omega) 0 (.int .i64 0))
            have RC := Lib.hid rc
            have RD := Lib.hid rd
            have RA := Lib.hid ra8
            have RB := Lib.hid rb8
            clear rc rd ra8 rb8 hx08 hx8 hb8 hk8 hb9 hk9 hb7 hk7
            go_wp2_with (first
              | (refine wpList_load_mid rfl 28 (.tmp 2) rfl w.heap.size 0 rfl (patC (.slice A1 p1.length c1) (.slice B1 s1.length d1) (.slice A3 (p1.length + 1) c3) (.slice B3 s1.length d3) n1) _ HR9.out Tryz.underlying28 rfl infoPat ?_)
              | (refine wpList_store_row rfl 28 (.tmp 2) (.tmp 63) rfl w.heap.size (patC (.slice A1 p1.length c1) (.slice B1 s1.length d1) (.slice A3 (p1.length + 1) c3) (.slice B3 s1.length d3) n1).toArray rfl rfl _ _ HB9.out infoPat rfl pat_one ?_))
            refine ends_ hbz.out rfl hkz.out rfl rfl ?_
            rw [HP6.out]
            exact ⟨A1, c1, B1, d1, A3, c3, B3, d3, rfl, Row.only2 RA.out oz.out fa hs2, Row.only2 RB.out oz.out fb hs2, Row.only2 RC.out oz.out fc3 hs7, Row.only2 RD.out oz.out fd3 hs7, oa, ob, oc3, od3, hxz.out⟩
          · have HP5 : Hid (parseF s.data.toList = .error 3) := Lib.hid (by rw [HP4.out, if_neg hbb])
            have HB6 := HB5.out.alloc (.cells (patC (.slice A2 p2.length c2) (.slice B2 s2.length d2) nilS nilS n2).toArray 28)
            have HK6 := HK5.out.alloc (.cells (patC (.slice A2 p2.length c2) (.slice B2 s2.length d2) nilS nilS n2).toArray 28)
            have HX6 := HX5.out.alloc_ (.cells (patC (.slice A2 p2.length c2) (.slice B2 s2.length d2) nilS nilS n2).toArray 28)
            have HB7 := Lib.hid HB6
            have hkc := (HK6.other (show w.heap.size + 1 ≠ w.heap.size by omega) (patC nilS nilS nilS nilS zeroN).toArray).cell (j := 0) (v := .int .i64 0) rfl
            have hkf := (HK6.other (show w.heap.size + 1 ≠ w.heap.size by omega) (patC nilS nilS nilS nilS zeroN).toArray).frozen 0
            have hb8 := Lib.hid (((HB6.set (patC nilS nilS nilS nilS zeroN).toArray)).setCell1 (w.heap.size + 1) (.int .i64 3) (by omega) 0)
            have hk8 := Lib.hid ((HK6.other (show w.heap.size + 1 ≠ w.heap.size by omega) (patC nilS nilS nilS nilS zeroN).toArray).setCell 0 (.int .i64 3))
            have hx8 := Lib.hid (Ext.setCell_ (Ext.setRow HX6 (Nat.le_refl _) (patC nilS nilS nilS nilS zeroN).toArray) (show w.heap.size ≤ w.heap.size + 1 by omega) 0 (.int .i64 3))
            clear HB6 HK6 HX6 HP4
            have hb3 : (b1 = false ∧ b2 = false) ∨ (b1 = false ∧ b2 = true) ∨ (b1 = true ∧ b2 = false) := by cases b1 <;> cases b2 <;> simp_all
            clear hbb
            rcases hb3 with ⟨rfl, rfl⟩ | ⟨rfl, rfl⟩ | ⟨rfl, rfl⟩
            all_goals
              go_wp2_with (first | (refine wpList_store_fresh rfl 28 (.tmp 9) (.tmp 39) rfl (patC (.slice A2 p2.length c2) (.slice B2 s2.length d2) nilS nilS n2).toArray 28 _ rfl rfl infoPat rfl pat_one ?_) | (refine wpList_store_row rfl 28 (.tmp 2) (.tmp 47) rfl w.heap.size (patC nilS nilS nilS nilS zeroN).toArray rfl rfl _ _ HB7.out infoPat rfl pat_one ?_))
              refine ends_ hb8.out rfl hk8.out rfl rfl ?_
              rw [HP5.out]
              exact ⟨rfl, hx8.out⟩
end Go.Proofs.YtdkjkbbibdppoaaGreatDoor.Pat
