/- The document's own making of patterns' texts: signs, Text. (Printed by wip/gen/text.py.) -/
import Derived.Test.YtdkjkbbibdppoaaGreatDoorPatL
import Derived.Deep.DeepCutAuto
import Derived.Deep.RegionHeld3
import Derived.Deep.RegionWith
namespace Go.Proofs.YtdkjkbbibdppoaaGreatDoor.Pat
open Go.RowKit Utf All Small Strs Build EncC
set_option linter.unusedVariables false
set_option linter.unusedSimpArgs false

def tblS : List (List UInt8) := [[97], [194, 164], [37], [45], [39, 35, 39], [39, 39], [194, 160], [101, 204, 129], [39, 46, 59, 39], [120, 39, 121, 39]]
def oneS (x : Int) : List UInt8 := tblS.getD (aroundF x 10).toNat []
def signF (xs : List Int) : List UInt8 := (xs.take 5).flatMap oneS
theorem tbl_len : ∀ j : Fin 10, (tblS.getD j.val []).length ≤ 4 := by decide
theorem oneS_len (x : Int) : (oneS x).length ≤ 4 := by
  have h := aroundF_bd x 10 (by omega)
  have := tbl_len ⟨(aroundF x 10).toNat, by omega⟩
  exact this
theorem tbl_at (j : Nat) (h : j < 10) : tblS[j]? = some (tblS.getD j []) := by
  have hl : j < tblS.length := h
  rw [List.getD, List.getElem?_eq_getElem hl]; rfl
theorem flat_len (xs : List Int) : (xs.flatMap oneS).length ≤ 4 * xs.length := by
  induction xs with
  | nil => simp
  | cons x r ih => have := oneS_len x; rw [List.flatMap_cons, List.length_append, List.length_cons]; omega
theorem signF_len (xs : List Int) : (signF xs).length ≤ 20 := by
  have h1 := flat_len (xs.take 5)
  have h2 : (xs.take 5).length ≤ 5 := by simp; omega
  unfold signF; omega
theorem one_snoc {xs : List Int} {k : Nat} (hk : k < xs.length) : (xs.take (k + 1)).flatMap oneS = (xs.take k).flatMap oneS ++ oneS xs[k] := by
  rw [List.take_succ_eq_append_getElem hk, List.flatMap_append]; simp
set_option maxHeartbeats 4000000 in
set_option maxRecDepth 100000 in
theorem signs_ (A : Option Addr) (c : Nat) (xs : List Int) (w : World) (hr : Row w A (xs.map (Value.int .i64))) (hb : ∀ x ∈ xs, -9223372036854775808 ≤ x ∧ x ≤ 9223372036854775807) :
    Calls Tryz.prog 54 #[.slice A xs.length c] w fun e w' => e = .returned (.string ⟨(signF xs).toArray⟩) ∧ Ext w w' := by
  have HB := Lib.hid hb
  clear hb
  have hbx := Box.new w 9 (tblS.map strV)
  have hx0 : Ext w (w.alloc (.cells (tblS.map strV).toArray 9)) := Ext.alloc_ (Ext.refl w) _
  go_enter Tryz.func54, Tryz.ntmps54
  go_wp2
  change Code.wp _ _ _ _ (w.alloc (.cells (tblS.map strV).toArray 9))
  have HROW : Hid (Row (w.alloc (.cells (tblS.map strV).toArray 9)) (some ⟨w.heap.size, 0, none⟩) (tblS.map strV)) := Lib.hid hbx.row
  clear hbx
  generalize w.alloc (.cells (tblS.map strV).toArray 9) = w1 at *
  go_loop [4, 5] (fun s i => ∃ k : Nat, k ≤ xs.length ∧ k ≤ 5 ∧ i = .int .i64 k ∧ s = .string ⟨((xs.take k).flatMap oneS).toArray⟩) (fun _ i => 5 - (intOf i).toNat)
  case atStart => exact ⟨0, Nat.zero_le _, by omega, rfl, rfl⟩
  case round =>
    obtain ⟨k, hk, hk5, rfl, rfl⟩ := hrel
    by_cases hlt : k < xs.length
    · have hlt' : (k : Int) < (xs.length : Int) := by omega
      by_cases h5 : k < 5
      · obtain ⟨b, off, rfl, hc⟩ := row_int (hr.below hx0 (Nat.le_refl _)) hlt
        have hv := HB.out _ (List.getElem_mem hlt)
        have HS := Lib.hid (one_snoc hlt)
        have hfl := flat_len (xs.take k)
        rw [List.length_take_of_le hk] at hfl
        generalize hvv : xs[k] = v at *
        clear hvv
        have hol := oneS_len v
        have hab := aroundF_bd v 10 (by omega)
        obtain ⟨j, hj, hjn⟩ : ∃ j : Nat, j < 10 ∧ aroundF v 10 = j := ⟨(aroundF v 10).toNat, by omega, by omega⟩
        have HJ := Lib.hid hjn
        have HO : Hid (oneS v = tblS.getD j []) := Lib.hid (by unfold oneS; rw [hjn]; rfl)
        have hcj : w1.cell? ⟨w.heap.size, j, none⟩ = some (.string ⟨(tblS.getD j []).toArray⟩) := HROW.out.cell00 (by rw [List.getElem?_map, tbl_at j hj]; rfl)
        rw [HO.out] at hol
        generalize tblS.getD j [] = tj at *
        generalize (xs.take k).flatMap oneS = tx at *
        obtain ⟨hv0, hv1⟩ := hv
        clear hjn hab
        go_wp2_with fail
        refine (around v 10 w1 hv0 hv1 (by decide) (by decide)).mono ?_; rintro e w' ⟨rfl, rfl⟩; rw [HJ.out]
        go_wp2
        go_round
        case rel => exact ⟨k + 1, by omega, by omega, by go_num, by rw [HS.out, HO.out, app_mk]⟩
        case measure => simp [intOf]; omega
      · have e5 : k = 5 := by omega
        subst e5
        have HE : Hid ((xs.take 5).flatMap oneS = signF xs) := Lib.hid rfl
        go_wp2
        go_ret
        exact ⟨by rw [← HE.out]; rfl, hx0⟩
    · have e : k = xs.length := by omega
      subst e
      have HE : Hid (xs.flatMap oneS = signF xs) := Lib.hid (by unfold signF; rw [List.take_of_length_le hk5])
      go_wp2
      go_ret
      exact ⟨by rw [← HE.out]; rfl, hx0⟩

/-! ### Text -/
/-- the number's signs, from the i-th on -/
def numT (z p q n : Nat) : Nat → List UInt8
  | 0 => []
  | i + 1 => (if i + 1 < n ∧ (i + 1 = p ∨ (0 < p ∧ 0 < q ∧ i + 1 = p + q)) then [44] else []) ++ (if i + 1 ≤ z then [48] else [35]) ++ numT z p q n i
theorem numT_len (z p q n : Nat) : ∀ i, (numT z p q n i).length ≤ 2 * i
  | 0 => by simp [numT]
  | i + 1 => by
    have := numT_len z p q n i
    rw [numT, List.length_append, List.length_append]
    split <;> split <;> simp <;> omega
def numN' (z p q : Nat) : Nat := max z (p + q + 1)
def fracT (a b : Nat) : List UInt8 := if 0 < a + b then 46 :: (List.replicate a 48 ++ List.replicate b 35) else []
def coreT (z p q a b : Nat) : List UInt8 := numT z p q (numN' z p q) (numN' z p q) ++ fracT a b
/-- what a pattern's text is made of -/
structure GG where
  pre : List Int
  suf : List Int
  two : Bool
  npre : List Int
  nsuf : List Int
  zeros : Int
  prim : Int
  sec : Int
  minf : Int
  more : Int
def nat (x m : Int) : Nat := (aroundF x m).toNat
def textF (g : GG) : List UInt8 := signF g.pre ++ coreT (nat g.zeros 7) (nat g.prim 5) (nat g.sec 5) (nat g.minf 4) (nat g.more 4) ++ signF g.suf ++ (if g.two then 59 :: (signF g.npre ++ [48] ++ signF g.nsuf) else [])
theorem str1 (l : List UInt8) (x : UInt8) : (⟨l.toArray⟩ : ByteArray) ++ ⟨#[x]⟩ = ⟨(l ++ ([] ++ [x])).toArray⟩ := app_mk l [x]
theorem str2 (l : List UInt8) (x y : UInt8) : (⟨l.toArray⟩ : ByteArray) ++ ⟨#[x]⟩ ++ ⟨#[y]⟩ = ⟨(l ++ ([x] ++ [y])).toArray⟩ := by
  refine bytes_ext ?_
  simp
theorem str4 (l m r : List UInt8) : (⟨l.toArray⟩ : ByteArray) ++ ⟨#[59]⟩ ++ ⟨m.toArray⟩ ++ ⟨#[48]⟩ ++ ⟨r.toArray⟩ = ⟨(l ++ [59] ++ m ++ [48] ++ r).toArray⟩ := by
  refine bytes_ext ?_
  simp
theorem ext3 (x : UInt8) : ∀ a : Nat, a < 4 → (⟨#[x, x, x]⟩ : ByteArray).extract 0 a = ⟨(List.replicate a x).toArray⟩ := by
  intro a ha
  match a, ha with
  | 0, _ => rfl
  | 1, _ => rfl
  | 2, _ => rfl
  | 3, _ => rfl
theorem frac_mk (l : List UInt8) (a b : Nat) (ha : a < 4) (hb : b < 4) : (⟨l.toArray⟩ : ByteArray) ++ ⟨#[46]⟩ ++ (⟨#[48, 48, 48]⟩ : ByteArray).extract 0 a ++ (⟨#[35, 35, 35]⟩ : ByteArray).extract 0 b = ⟨(l ++ 46 :: (List.replicate a 48 ++ List.replicate b 35)).toArray⟩ := by
  rw [ext3 48 a ha, ext3 35 b hb]
  refine bytes_ext ?_
  simp
def ggV (A B C D : Option Addr) (c d a b : Nat) (g : GG) : List Value := [.slice A g.pre.length c, .slice B g.suf.length d, .bool g.two, .slice C g.npre.length a, .slice D g.nsuf.length b, .int .i64 g.zeros, .int .i64 g.prim, .int .i64 g.sec, .int .i64 g.minf, .int .i64 g.more]
def i64 (x : Int) : Prop := -9223372036854775808 ≤ x ∧ x ≤ 9223372036854775807
structure GgR (w : World) (A B C D : Option Addr) (g : GG) : Prop where
  rA : Row w A (g.pre.map (Value.int .i64))
  rB : Row w B (g.suf.map (Value.int .i64))
  rC : Row w C (g.npre.map (Value.int .i64))
  rD : Row w D (g.nsuf.map (Value.int .i64))
  bA : ∀ x ∈ g.pre, i64 x
  bB : ∀ x ∈ g.suf, i64 x
  bC : ∀ x ∈ g.npre, i64 x
  bD : ∀ x ∈ g.nsuf, i64 x
  nums : i64 g.zeros ∧ i64 g.prim ∧ i64 g.sec ∧ i64 g.minf ∧ i64 g.more
theorem GgR.ext {w w' : World} {A B C D : Option Addr} {g : GG} (h : GgR w A B C D g) (hx : Ext w w') : GgR w' A B C D g :=
  ⟨h.rA.below hx (Nat.le_refl _), h.rB.below hx (Nat.le_refl _), h.rC.below hx (Nat.le_refl _), h.rD.below hx (Nat.le_refl _), h.bA, h.bB, h.bC, h.bD, h.nums⟩
theorem nat_of (x m : Int) (hm : 1 ≤ m) : ∃ j : Nat, (j : Int) < m ∧ aroundF x m = j ∧ nat x m = j := by
  have := aroundF_bd x m hm
  exact ⟨(aroundF x m).toNat, by omega, by omega, rfl⟩
set_option maxHeartbeats 8000000 in
set_option maxRecDepth 100000 in
theorem text_ (A B C D : Option Addr) (c d a b : Nat) (g : GG) (w : World) (hg : GgR w A B C D g) :
    Calls Tryz.prog 12 #[.agg (ggV A B C D c d a b g).toArray] w fun e w' => e = .returned (.string ⟨(textF g).toArray⟩) ∧ Ext w w' := by
  have hb1 := Box.new w 24 (ggV A B C D c d a b g)
  have hx1 : Ext w (w.alloc (.cells (ggV A B C D c d a b g).toArray 24)) := Ext.alloc_ (Ext.refl w) _
  have HG := Lib.hid (hg.ext hx1)
  obtain ⟨z, hz, hz1, hz2⟩ := nat_of g.zeros 7 (by omega)
  obtain ⟨p, hp, hp1, hp2⟩ := nat_of g.prim 5 (by omega)
  obtain ⟨q, hq, hq1, hq2⟩ := nat_of g.sec 5 (by omega)
  obtain ⟨a', ha, ha1, ha2⟩ := nat_of g.minf 4 (by omega)
  obtain ⟨b', hb, hb1', hb2⟩ := nat_of g.more 4 (by omega)
  have HT : Hid (textF g = signF g.pre ++ coreT z p q a' b' ++ signF g.suf ++ (if g.two then 59 :: (signF g.npre ++ [48] ++ signF g.nsuf) else [])) := Lib.hid (by unfold textF; rw [hz2, hp2, hq2, ha2, hb2])
  have HZ := Lib.hid hz1
  have HP := Lib.hid hp1
  have HQ := Lib.hid hq1
  have HA := Lib.hid ha1
  have HB := Lib.hid hb1'
  clear hz1 hz2 hp1 hp2 hq1 hq2 ha1 ha2 hb1' hb2 hg
  obtain ⟨xpre, xsuf, two, xnp, xns, zz, pp, qq, mf, mr⟩ := g
  have hnm := HG.out.nums
  obtain ⟨⟨n1, n2⟩, ⟨n3, n4⟩, ⟨n5, n6⟩, ⟨n7, n8⟩, ⟨n9, n10⟩⟩ := hnm
  go_enter Tryz.func12, Tryz.ntmps12
  go_upto_region 1 with fail
  change Code.wp _ _ _ _ (w.alloc (.cells (ggV A B C D c d a b ⟨xpre, xsuf, two, xnp, xns, zz, pp, qq, mf, mr⟩).toArray 24))
  generalize w.alloc (.cells (ggV A B C D c d a b ⟨xpre, xsuf, two, xnp, xns, zz, pp, qq, mf, mr⟩).toArray 24) = w1 at *
  have k0 := hb1.cell (j := 0) (v := .slice A xpre.length c) rfl
  have k1 := hb1.cell (j := 1) (v := .slice B xsuf.length d) rfl
  have k2 := hb1.cell (j := 2) (v := .bool two) rfl
  have k3 := hb1.cell (j := 3) (v := .slice C xnp.length a) rfl
  have k4 := hb1.cell (j := 4) (v := .slice D xns.length b) rfl
  have k5 := hb1.cell (j := 5) (v := .int .i64 zz) rfl
  have k6 := hb1.cell (j := 6) (v := .int .i64 pp) rfl
  have k7 := hb1.cell (j := 7) (v := .int .i64 qq) rfl
  have k8 := hb1.cell (j := 8) (v := .int .i64 mf) rfl
  have k9 := hb1.cell (j := 9) (v := .int .i64 mr) rfl
  have HX := Lib.hid hx1
  clear hx1 hb1
  go_wp2_with fail
  refine (around pp 5 w1 n3 n4 (by decide) (by decide)).mono ?_; rintro e w' ⟨rfl, rfl⟩; rw [HP.out]
  go_wp2_with fail
  refine (around qq 5 w1 n5 n6 (by decide) (by decide)).mono ?_; rintro e w' ⟨rfl, rfl⟩; rw [HQ.out]
  go_wp2_with fail
  refine (around zz 7 w1 n1 n2 (by decide) (by decide)).mono ?_; rintro e w' ⟨rfl, rfl⟩; rw [HZ.out]
  go_wp2_with fail
  refine (signs_ A c xpre w1 HG.out.rA HG.out.bA).mono ?_; rintro e w2 ⟨rfl, hx2⟩
  have hl0 := signF_len xpre
  have hmax : max (z : Int) ((p : Int) + (q : Int) + 1) = ((numN' z p q : Nat) : Int) := by unfold numN'; omega
  have HN0 : Hid (coreT z p q a' b' = numT z p q (numN' z p q) (numN' z p q) ++ fracT a' b') := Lib.hid rfl
  have hn9 : numN' z p q ≤ 9 := by unfold numN'; omega
  rw [hmax]
  clear hmax
  generalize numN' z p q = n at *
  have j1 := Ext.cell_ hx2 k1
  have j2 := Ext.cell_ hx2 k2
  have j3 := Ext.cell_ hx2 k3
  have j4 := Ext.cell_ hx2 k4
  have j8 := Ext.cell_ hx2 k8
  have j9 := Ext.cell_ hx2 k9
  have HX2 := Lib.hid hx2
  clear hx2
  generalize signF xpre = s0 at *
  go_wp2
  go_loop [7, 8] (fun s i => ∃ (k : Nat) (l : List UInt8), k ≤ n ∧ i = .int .i64 k ∧ s = .string ⟨l.toArray⟩ ∧ Hid (l ++ numT z p q n k = s0 ++ numT z p q n n) ∧ l.length + 2 * k ≤ 20 + 2 * n) (fun _ i => (intOf i).toNat)
  case atStart => exact ⟨n, s0, Nat.le_refl _, rfl, rfl, Lib.hid rfl, by omega⟩
  case round =>
    obtain ⟨k, l, hk, rfl, rfl, HK, hl⟩ := hrel
    by_cases h0 : 0 < k
    · obtain ⟨i, rfl⟩ : ∃ i, k = i + 1 := ⟨k - 1, by omega⟩
      by_cases h1 : i + 1 < n
      rotate_left
      · have g1 : ¬ ((i : Int) + 1 < (n : Int)) := by omega
        by_cases hd : i + 1 ≤ z
        · have HN : Hid (numT z p q n (i + 1) = ([] ++ [48]) ++ numT z p q n i) := Lib.hid (by rw [numT, if_neg (fun e => h1 e.1), if_pos hd])
          have hd' : ((i : Int) + 1 ≤ (z : Int)) := by omega
          clear hd
          go_wp2
          refine ⟨?_, by simp [intOf] <;> omega⟩
          exact ⟨i, l ++ ([] ++ [48]), by omega, by go_num, by rw [str1], Lib.hid (by rw [← HK.out, HN.out]; simp), by simp; omega⟩
        · have HN : Hid (numT z p q n (i + 1) = ([] ++ [35]) ++ numT z p q n i) := Lib.hid (by rw [numT, if_neg (fun e => h1 e.1), if_neg hd])
          have hd' : ¬ ((i : Int) + 1 ≤ (z : Int)) := by omega
          clear hd
          go_wp2
          refine ⟨?_, by simp [intOf] <;> omega⟩
          exact ⟨i, l ++ ([] ++ [35]), by omega, by go_num, by rw [str1], Lib.hid (by rw [← HK.out, HN.out]; simp), by simp; omega⟩
      have g1 : (i : Int) + 1 < (n : Int) := by omega
      by_cases h2 : i + 1 = p
      · have g2 : (((i : Int) + 1) == (p : Int)) = true := by simp; omega
        by_cases hd : i + 1 ≤ z
        · have HN : Hid (numT z p q n (i + 1) = ([44] ++ [48]) ++ numT z p q n i) := Lib.hid (by rw [numT, if_pos ⟨h1, .inl h2⟩, if_pos hd])
          have hd' : ((i : Int) + 1 ≤ (z : Int)) := by omega
          clear hd
          go_wp2
          refine ⟨?_, by simp [intOf] <;> omega⟩
          exact ⟨i, l ++ ([44] ++ [48]), by omega, by go_num, by rw [str2], Lib.hid (by rw [← HK.out, HN.out]; simp), by simp; omega⟩
        · have HN : Hid (numT z p q n (i + 1) = ([44] ++ [35]) ++ numT z p q n i) := Lib.hid (by rw [numT, if_pos ⟨h1, .inl h2⟩, if_neg hd])
          have hd' : ¬ ((i : Int) + 1 ≤ (z : Int)) := by omega
          clear hd
          go_wp2
          refine ⟨?_, by simp [intOf] <;> omega⟩
          exact ⟨i, l ++ ([44] ++ [35]), by omega, by go_num, by rw [str2], Lib.hid (by rw [← HK.out, HN.out]; simp), by simp; omega⟩
      have g2 : (((i : Int) + 1) == (p : Int)) = false := by simp; omega
      by_cases h3 : 0 < p
      rotate_left
      · have g3 : ¬ ((p : Int) > 0) := by omega
        by_cases hd : i + 1 ≤ z
        · have HN : Hid (numT z p q n (i + 1) = ([] ++ [48]) ++ numT z p q n i) := Lib.hid (by rw [numT, if_neg (fun e => e.2.elim h2 (fun f => h3 f.1)), if_pos hd])
          have hd' : ((i : Int) + 1 ≤ (z : Int)) := by omega
          clear hd
          go_wp2
          refine ⟨?_, by simp [intOf] <;> omega⟩
          exact ⟨i, l ++ ([] ++ [48]), by omega, by go_num, by rw [str1], Lib.hid (by rw [← HK.out, HN.out]; simp), by simp; omega⟩
        · have HN : Hid (numT z p q n (i + 1) = ([] ++ [35]) ++ numT z p q n i) := Lib.hid (by rw [numT, if_neg (fun e => e.2.elim h2 (fun f => h3 f.1)), if_neg hd])
          have hd' : ¬ ((i : Int) + 1 ≤ (z : Int)) := by omega
          clear hd
          go_wp2
          refine ⟨?_, by simp [intOf] <;> omega⟩
          exact ⟨i, l ++ ([] ++ [35]), by omega, by go_num, by rw [str1], Lib.hid (by rw [← HK.out, HN.out]; simp), by simp; omega⟩
      have g3 : (p : Int) > 0 := by omega
      by_cases h4 : 0 < q
      rotate_left
      · have g4 : ¬ ((q : Int) > 0) := by omega
        by_cases hd : i + 1 ≤ z
        · have HN : Hid (numT z p q n (i + 1) = ([] ++ [48]) ++ numT z p q n i) := Lib.hid (by rw [numT, if_neg (fun e => e.2.elim h2 (fun f => h4 f.2.1)), if_pos hd])
          have hd' : ((i : Int) + 1 ≤ (z : Int)) := by omega
          clear hd
          go_wp2
          refine ⟨?_, by simp [intOf] <;> omega⟩
          exact ⟨i, l ++ ([] ++ [48]), by omega, by go_num, by rw [str1], Lib.hid (by rw [← HK.out, HN.out]; simp), by simp; omega⟩
        · have HN : Hid (numT z p q n (i + 1) = ([] ++ [35]) ++ numT z p q n i) := Lib.hid (by rw [numT, if_neg (fun e => e.2.elim h2 (fun f => h4 f.2.1)), if_neg hd])
          have hd' : ¬ ((i : Int) + 1 ≤ (z : Int)) := by omega
          clear hd
          go_wp2
          refine ⟨?_, by simp [intOf] <;> omega⟩
          exact ⟨i, l ++ ([] ++ [35]), by omega, by go_num, by rw [str1], Lib.hid (by rw [← HK.out, HN.out]; simp), by simp; omega⟩
      have g4 : (q : Int) > 0 := by omega
      by_cases h5 : i + 1 = p + q
      · have g5 : (((i : Int) + 1) == (p : Int) + (q : Int)) = true := by simp; omega
        by_cases hd : i + 1 ≤ z
        · have HN : Hid (numT z p q n (i + 1) = ([44] ++ [48]) ++ numT z p q n i) := Lib.hid (by rw [numT, if_pos ⟨h1, .inr ⟨h3, h4, h5⟩⟩, if_pos hd])
          have hd' : ((i : Int) + 1 ≤ (z : Int)) := by omega
          clear hd
          go_wp2
          refine ⟨?_, by simp [intOf] <;> omega⟩
          exact ⟨i, l ++ ([44] ++ [48]), by omega, by go_num, by rw [str2], Lib.hid (by rw [← HK.out, HN.out]; simp), by simp; omega⟩
        · have HN : Hid (numT z p q n (i + 1) = ([44] ++ [35]) ++ numT z p q n i) := Lib.hid (by rw [numT, if_pos ⟨h1, .inr ⟨h3, h4, h5⟩⟩, if_neg hd])
          have hd' : ¬ ((i : Int) + 1 ≤ (z : Int)) := by omega
          clear hd
          go_wp2
          refine ⟨?_, by simp [intOf] <;> omega⟩
          exact ⟨i, l ++ ([44] ++ [35]), by omega, by go_num, by rw [str2], Lib.hid (by rw [← HK.out, HN.out]; simp), by simp; omega⟩
      have g5 : (((i : Int) + 1) == (p : Int) + (q : Int)) = false := by simp; omega
      by_cases hd : i + 1 ≤ z
      · have HN : Hid (numT z p q n (i + 1) = ([] ++ [48]) ++ numT z p q n i) := Lib.hid (by rw [numT, if_neg (fun e => e.2.elim h2 (fun f => h5 f.2.2)), if_pos hd])
        have hd' : ((i : Int) + 1 ≤ (z : Int)) := by omega
        clear hd
        go_wp2
        refine ⟨?_, by simp [intOf] <;> omega⟩
        exact ⟨i, l ++ ([] ++ [48]), by omega, by go_num, by rw [str1], Lib.hid (by rw [← HK.out, HN.out]; simp), by simp; omega⟩
      · have HN : Hid (numT z p q n (i + 1) = ([] ++ [35]) ++ numT z p q n i) := Lib.hid (by rw [numT, if_neg (fun e => e.2.elim h2 (fun f => h5 f.2.2)), if_neg hd])
        have hd' : ¬ ((i : Int) + 1 ≤ (z : Int)) := by omega
        clear hd
        go_wp2
        refine ⟨?_, by simp [intOf] <;> omega⟩
        exact ⟨i, l ++ ([] ++ [35]), by omega, by go_num, by rw [str1], Lib.hid (by rw [← HK.out, HN.out]; simp), by simp; omega⟩
    · have e0 : k = 0 := by omega
      subst e0
      have HL : Hid (l = s0 ++ numT z p q n n) := Lib.hid (by have := HK.out; rwa [numT, List.append_nil] at this)
      go_wp2_with fail
      refine (around mf 4 w2 n7 n8 (by decide) (by decide)).mono ?_; rintro e w' ⟨rfl, rfl⟩; rw [HA.out]
      go_wp2_with fail
      refine (around mr 4 w2 n9 n10 (by decide) (by decide)).mono ?_; rintro e w' ⟨rfl, rfl⟩; rw [HB.out]
      have hll : l.length ≤ 40 := by omega
      by_cases hab : 0 < a' + b'
      · have HFR : Hid (l ++ fracT a' b' = l ++ 46 :: (List.replicate a' 48 ++ List.replicate b' 35)) := Lib.hid (by unfold fracT; rw [if_pos hab])
        have g6 : (a' : Int) + (b' : Int) > 0 := by omega
        have g7 : (0 : Int) ≤ (a' : Int) := by omega
        have g8 : (a' : Int) ≤ 3 := by omega
        have g9 : (0 : Int) ≤ (b' : Int) := by omega
        have g10 : (b' : Int) ≤ 3 := by omega
        have g11 : a' ≤ 3 := by omega
        have g12 : b' ≤ 3 := by omega
        have HEX := Lib.hid (ext3 48 a' (by omega))
        have HEY := Lib.hid (ext3 35 b' (by omega))
        clear hab
        have HFM := Lib.hid (frac_mk l a' b' (by omega) (by omega))
        go_upto_region 17 with fail
        go_region
        rw [HFM.out]
        obtain ⟨l2, hl2⟩ : ∃ l2, l2 = l ++ 46 :: (List.replicate a' 48 ++ List.replicate b' 35) := ⟨_, rfl⟩
        have hll2 : l2.length ≤ 60 := by rw [hl2, List.length_append, List.length_cons, List.length_append, List.length_replicate, List.length_replicate]; omega
        have HL2 : Hid (l2 = s0 ++ numT z p q n n ++ fracT a' b') := Lib.hid (by rw [hl2, ← HFR.out, HL.out])
        rw [← hl2]
        have hE : Ext w2 w2.drew := Ext.drew_ (Ext.refl _)
        clear hl2 HFM HFR
        generalize w2.drew = wx at *
        have i1 := Ext.cell_ hE j1
        have hl1 := signF_len xsuf
        have HE := Lib.hid hE
        clear hE
        go_wp2_with fail
        refine (signs_ B d xsuf wx (HG.out.rB.below (HX2.out.trans HE.out) (Nat.le_refl _)) HG.out.bB).mono ?_; rintro e w3 ⟨rfl, hx3⟩
        have hE3 := HE.out.trans hx3
        have m2 := Ext.cell_ hE3 j2
        have m3 := Ext.cell_ hE3 j3
        have m4 := Ext.cell_ hE3 j4
        have HE3 := Lib.hid hE3
        clear hE3
        cases two
        · have HF : Hid (textF ⟨xpre, xsuf, false, xnp, xns, zz, pp, qq, mf, mr⟩ = l2 ++ signF xsuf) := Lib.hid (by rw [HT.out, HN0.out, HL2.out]; simp)
          go_wp2
          go_ret
          exact ⟨by rw [HF.out, ← app_mk]; rfl, HX.out.trans (HX2.out.trans HE3.out)⟩
        · have HF : Hid (textF ⟨xpre, xsuf, true, xnp, xns, zz, pp, qq, mf, mr⟩ = (l2 ++ signF xsuf) ++ [59] ++ signF xnp ++ [48] ++ signF xns) := Lib.hid (by rw [HT.out, HN0.out, HL2.out]; simp)
          have HA3 := Lib.hid (app_mk l2 (signF xsuf))
          have hl3 : (l2 ++ signF xsuf).length ≤ 100 := by rw [List.length_append]; omega
          generalize hl3e : l2 ++ signF xsuf = l3 at *
          clear hl3e
          have hl4 := signF_len xnp
          have hl5 := signF_len xns
          have hq1 : (9223372036854775807 < l3.length + 1) = False := by rw [eq_iff_iff, iff_false]; omega
          have hq2 : (9223372036854775807 < l3.length + 1 + (signF xnp).length) = False := by rw [eq_iff_iff, iff_false]; omega
          have hq3 : (9223372036854775807 < l3.length + 1 + (signF xnp).length + 1) = False := by rw [eq_iff_iff, iff_false]; omega
          have hq4 : (9223372036854775807 < l3.length + 1 + (signF xnp).length + 1 + (signF xns).length) = False := by rw [eq_iff_iff, iff_false]; omega
          have HC : Hid (∀ W, Ext w3 W → Calls Tryz.prog 54 #[.slice C xnp.length a] W fun e w' => e = .returned (.string ⟨(signF xnp).toArray⟩) ∧ Ext W w') := Lib.hid (fun W hW => signs_ C a xnp W (HG.out.rC.below (HX2.out.trans (HE3.out.trans hW)) (Nat.le_refl _)) HG.out.bC)
          have HD : Hid (∀ W, Ext w3 W → Calls Tryz.prog 54 #[.slice D xns.length b] W fun e w' => e = .returned (.string ⟨(signF xns).toArray⟩) ∧ Ext W w') := Lib.hid (fun W hW => signs_ D b xns W (HG.out.rD.below (HX2.out.trans (HE3.out.trans hW)) (Nat.le_refl _)) HG.out.bD)
          have hE1 : Ext w3 w3 := Ext.refl w3
          go_upto_region 20 with fail
          rw [HA3.out]
          go_cut [7] (fun u wx => u = .string ⟨(l3 ++ [59] ++ signF xnp ++ [48] ++ signF xns).toArray⟩ ∧ Ext w3 wx)
          case first =>
            go_region_held3 (fun W => Ext w3 W ∧ W.cell? ⟨w.heap.size, 3, none⟩ = some (.slice C xnp.length a) ∧ W.cell? ⟨w.heap.size, 4, none⟩ = some (.slice D xns.length b))
              (first
                | exact ⟨Ext.drew_ (Ext.refl _), m3, m4⟩
                | exact ⟨Ext.refl _, m3, m4⟩
                | (refine (fun h => ⟨h, Ext.cell_ h m3, Ext.cell_ h m4⟩) ?_; first | assumption | exact Ext.drew_ (by assumption)))
              (first
                | (go_at_call 54; with_reducible refine (HC.out _ ?_).mono ?_; (first | assumption | exact Ext.drew_ (Ext.refl _)); rintro e w4 ⟨rfl, hx4⟩; (first | (have hE4 := (Ext.drew_ (Ext.refl w3)).trans hx4) | (rename Ext w3 _ => hEo; have hE4 := hEo.trans hx4)))
                | (go_at_call 54; with_reducible refine (HD.out _ ?_).mono ?_; (first | assumption | exact Ext.drew_ (Ext.refl _)); rintro e w4 ⟨rfl, hx4⟩; (first | (have hE4 := (Ext.drew_ (Ext.refl w3)).trans hx4) | (rename Ext w3 _ => hEo; have hE4 := hEo.trans hx4))))
            all_goals go_wp2_with fail
            all_goals go_meet
            all_goals exact ⟨by rw [str4], by assumption⟩
          case rest =>
            obtain ⟨rfl, hE⟩ := hcut
            go_wp2
            go_ret
            exact ⟨by rw [HF.out]; rfl, HX.out.trans (HX2.out.trans (HE3.out.trans hE))⟩
      · have HFR : Hid (fracT a' b' = []) := Lib.hid (by unfold fracT; rw [if_neg hab])
        have g6 : ¬ ((a' : Int) + (b' : Int) > 0) := by omega
        clear hab
        obtain ⟨l2, hl2⟩ : ∃ l2, l2 = l := ⟨l, rfl⟩
        have HL2 : Hid (l2 = s0 ++ numT z p q n n ++ fracT a' b') := Lib.hid (by rw [HFR.out, hl2, HL.out]; simp)
        subst hl2
        obtain ⟨wx, hwx⟩ : ∃ wx, wx = w2 := ⟨w2, rfl⟩
        have hE : Ext w2 wx := by rw [hwx]; exact Ext.refl _
        subst hwx
        have i1 := Ext.cell_ hE j1
        have hl1 := signF_len xsuf
        have HE := Lib.hid hE
        clear hE
        go_wp2_with fail
        refine (signs_ B d xsuf wx (HG.out.rB.below (HX2.out.trans HE.out) (Nat.le_refl _)) HG.out.bB).mono ?_; rintro e w3 ⟨rfl, hx3⟩
        have hE3 := HE.out.trans hx3
        have m2 := Ext.cell_ hE3 j2
        have m3 := Ext.cell_ hE3 j3
        have m4 := Ext.cell_ hE3 j4
        have HE3 := Lib.hid hE3
        clear hE3
        cases two
        · have HF : Hid (textF ⟨xpre, xsuf, false, xnp, xns, zz, pp, qq, mf, mr⟩ = l2 ++ signF xsuf) := Lib.hid (by rw [HT.out, HN0.out, HL2.out]; simp)
          go_wp2
          go_ret
          exact ⟨by rw [HF.out, ← app_mk]; rfl, HX.out.trans (HX2.out.trans HE3.out)⟩
        · have HF : Hid (textF ⟨xpre, xsuf, true, xnp, xns, zz, pp, qq, mf, mr⟩ = (l2 ++ signF xsuf) ++ [59] ++ signF xnp ++ [48] ++ signF xns) := Lib.hid (by rw [HT.out, HN0.out, HL2.out]; simp)
          have HA3 := Lib.hid (app_mk l2 (signF xsuf))
          have hl3 : (l2 ++ signF xsuf).length ≤ 100 := by rw [List.length_append]; omega
          generalize hl3e : l2 ++ signF xsuf = l3 at *
          clear hl3e
          have hl4 := signF_len xnp
          have hl5 := signF_len xns
          have hq1 : (9223372036854775807 < l3.length + 1) = False := by rw [eq_iff_iff, iff_false]; omega
          have hq2 : (9223372036854775807 < l3.length + 1 + (signF xnp).length) = False := by rw [eq_iff_iff, iff_false]; omega
          have hq3 : (9223372036854775807 < l3.length + 1 + (signF xnp).length + 1) = False := by rw [eq_iff_iff, iff_false]; omega
          have hq4 : (9223372036854775807 < l3.length + 1 + (signF xnp).length + 1 + (signF xns).length) = False := by rw [eq_iff_iff, iff_false]; omega
          have HC : Hid (∀ W, Ext w3 W → Calls Tryz.prog 54 #[.slice C xnp.length a] W fun e w' => e = .returned (.string ⟨(signF xnp).toArray⟩) ∧ Ext W w') := Lib.hid (fun W hW => signs_ C a xnp W (HG.out.rC.below (HX2.out.trans (HE3.out.trans hW)) (Nat.le_refl _)) HG.out.bC)
          have HD : Hid (∀ W, Ext w3 W → Calls Tryz.prog 54 #[.slice D xns.length b] W fun e w' => e = .returned (.string ⟨(signF xns).toArray⟩) ∧ Ext W w') := Lib.hid (fun W hW => signs_ D b xns W (HG.out.rD.below (HX2.out.trans (HE3.out.trans hW)) (Nat.le_refl _)) HG.out.bD)
          have hE1 : Ext w3 w3 := Ext.refl w3
          go_upto_region 20 with fail
          rw [HA3.out]
          go_cut [7] (fun u wx => u = .string ⟨(l3 ++ [59] ++ signF xnp ++ [48] ++ signF xns).toArray⟩ ∧ Ext w3 wx)
          case first =>
            go_region_held3 (fun W => Ext w3 W ∧ W.cell? ⟨w.heap.size, 3, none⟩ = some (.slice C xnp.length a) ∧ W.cell? ⟨w.heap.size, 4, none⟩ = some (.slice D xns.length b))
              (first
                | exact ⟨Ext.drew_ (Ext.refl _), m3, m4⟩
                | exact ⟨Ext.refl _, m3, m4⟩
                | (refine (fun h => ⟨h, Ext.cell_ h m3, Ext.cell_ h m4⟩) ?_; first | assumption | exact Ext.drew_ (by assumption)))
              (first
                | (go_at_call 54; with_reducible refine (HC.out _ ?_).mono ?_; (first | assumption | exact Ext.drew_ (Ext.refl _)); rintro e w4 ⟨rfl, hx4⟩; (first | (have hE4 := (Ext.drew_ (Ext.refl w3)).trans hx4) | (rename Ext w3 _ => hEo; have hE4 := hEo.trans hx4)))
                | (go_at_call 54; with_reducible refine (HD.out _ ?_).mono ?_; (first | assumption | exact Ext.drew_ (Ext.refl _)); rintro e w4 ⟨rfl, hx4⟩; (first | (have hE4 := (Ext.drew_ (Ext.refl w3)).trans hx4) | (rename Ext w3 _ => hEo; have hE4 := hEo.trans hx4))))
            all_goals go_wp2_with fail
            all_goals go_meet
            all_goals exact ⟨by rw [str4], by assumption⟩
          case rest =>
            obtain ⟨rfl, hE⟩ := hcut
            go_wp2
            go_ret
            exact ⟨by rw [HF.out]; rfl, HX.out.trans (HX2.out.trans (HE3.out.trans hE))⟩
end Go.Proofs.YtdkjkbbibdppoaaGreatDoor.Pat
