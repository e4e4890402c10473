/- Walks: the laws of the forty: FortyRecords. -/
import Derived.Test.YtbhmmodphjmlmaaForty8
import Derived.Laws.StructEq
import Derived.Deep.WholeRow
namespace Go.Proofs.Ytbhmmodphjmlmaa.Forty
open Go.RowKit Small Strs
set_option linter.unusedVariables false
set_option linter.unusedSimpArgs false

theorem wpList_store_new {P : Program} {ops : Array Oper} {rest : List Oper} {o : Oper} {a : Act} {w : World} {Q : Exit → Act → World → Prop} (hgd : o.guard = none) (ty : TypeId) (x y : Operand) (ho : o.op = .store ty x y)
    (cells : Array Value) (t : TypeId) (old : Array Value) (hx : a.eval x = .pointer (some ⟨w.heap.size, 0, none⟩)) (hy : a.eval y = .agg cells)
    (hi : (P.info? ty).map (·.size) = some cells.size)
    (hold : old.size = cells.size) (h1 : cells.all (·.oneCell') = true)
    (h : wpList P ops Q rest (a.put o.dst undef) (w.alloc (.cells cells t))) : wpList P ops Q (o :: rest) a (w.alloc (.cells old t)) :=
  wpList_store_row hgd ty x y ho w.heap.size cells hx hy t old (heap_alloc_new w _) hi hold h1 (by rw [World.setRow_alloc_new]; exact h)

theorem neq_rec (k : Nat) (w : World) : (binOp .neq 53 (.agg (recL k).toArray) (.agg (recL k).toArray)).run Try.prog w = .ok (.bool false) w := by
  rw [run_neq_struct, run_equalIn_struct w 9999 53 _ _ (by kernel_rfl) (by kernel_rfl)]
  simp [Program.fieldsOf, Try.underlying53, Op.eqFields, go_sem, recL]
theorem neq_zero (w : World) : (binOp .neq 61 (.agg zero8.toArray) (.agg zero8.toArray)).run Try.prog w = .ok (.bool false) w := by kernel_rfl
theorem names_distinct : ∀ i j : Fin 40, nameAt i.1 = nameAt j.1 → i = j := by decide +kernel
theorem findZ_name (k : Nat) (hk : k < 40) : findZ (nameAt k) = k := by
  refine findZ_hit _ k hk (fun j hj e => ?_) rfl
  have hjk : j < k := by simpa using hj
  have := names_distinct ⟨j, by omega⟩ ⟨k, hk⟩ e
  have : j = k := congrArg Fin.val this
  omega
theorem cellsL (w : World) (k : Nat) (e : TypeId) : Box (w.alloc (.cells (recL k).toArray e)) w.heap.size e (recL k) := Box.new _ _ _
theorem box8 {w : World} {g : Nat} {T : TypeId} {k : Nat} (h : Box w g T (recL k)) :
    w.cell? ⟨g, 0, none⟩ = some (.string (nameAt k)) ∧ w.cell? ⟨g, 1, none⟩ = some (.string (fldAt k 1)) ∧ w.cell? ⟨g, 2, none⟩ = some (.string (fldAt k 2)) ∧ w.cell? ⟨g, 3, none⟩ = some (.string (fldAt k 3)) ∧
    w.cell? ⟨g, 4, none⟩ = some (.string (fldAt k 4)) ∧ w.cell? ⟨g, 5, none⟩ = some (.string (fldAt k 5)) ∧ w.cell? ⟨g, 6, none⟩ = some (.string (fldAt k 6)) ∧ w.cell? ⟨g, 7, none⟩ = some (.string (fldAt k 7)) :=
  ⟨h.cell rfl, h.cell rfl, h.cell rfl, h.cell rfl, h.cell rfl, h.cell rfl, h.cell rfl, h.cell rfl⟩
theorem recs_form (s : ByteArray) : (0 ≤ findZ s ∧ recE s = 0) ∨ (findZ s = -1 ∧ recE s = 7 ∧ recR s = zero8) := by
  by_cases h : 0 ≤ findZ s
  · exact .inl ⟨h, by rw [recE, if_pos h]⟩
  · refine .inr ⟨?_, by rw [recE, if_neg h], by rw [recR, if_neg h]⟩
    unfold findZ idxF at *
    split at h
    · omega
    · rfl

set_option maxHeartbeats 4000000 in
set_option maxRecDepth 100000 in
theorem law12_FortyRecords (n : Int) (s : ByteArray) (w : World) (n1 : -9223372036854775808 ≤ n) (n2 : n ≤ 9223372036854775807) (hs : s.size ≤ maxLen) :
    Calls Try.prog 11 #[.int .i64 n, .string s] w fun e w' => e = .returned (.bool true) ∧ Ext w w' := by
  have hb := aroundF_bd n 40 (by omega)
  have HF : Hid (aroundF n 40 = ((aroundF n 40).toNat : Int)) := Lib.hid (by omega)
  have hk : (aroundF n 40).toNat < 40 := by omega
  have hf16 := fewB_size s 16
  go_enter Try.func11, Try.ntmps11
  go_wp2_with fail
  refine (few s 16 _ hs (by decide)).mono ?_; rintro e w' ⟨rfl, rfl⟩
  generalize fewB s 16 = x at *
  go_wp2_with fail
  refine (ref_one _ _ n1 n2).mono ?_; rintro e w1 ⟨rfl, hx1⟩
  generalize hkk : (aroundF n 40).toNat = k at *
  clear hkk hb
  rw [recV_L]
  have HFZ := Lib.hid (findZ_name k hk)
  have HRR : Hid (recR (nameAt k) = recL k) := Lib.hid (by rw [recR, HFZ.out]; rfl)
  have HRE : Hid (recE (nameAt k) = 0) := Lib.hid (by rw [recE, HFZ.out]; rfl)
  have hB1 := Box.new w1 53 (recL k)
  go_wp2_with (refine wpList_store_new rfl 53 (.tmp 5) (.tmp 16) rfl (recL k).toArray 53 _ rfl rfl infoR rfl (recL_one k) ?_)
  have HX1 : Hid (Ext w (w1.alloc (.cells (recL k).toArray 53))) := Lib.hid (Ext.alloc_ hx1 _)
  generalize w1.alloc (.cells (recL k).toArray 53) = w2 at *
  generalize w1.heap.size = g at *
  refine (forty_names _).mono ?_; rintro e w3 ⟨A, c, rfl, hrow, hx3⟩
  have hB3 := hB1.ext hx3
  have HX3 : Hid (Ext w w3) := Lib.hid (HX1.out.trans hx3)
  clear hB1 hx3 hx1
  go_wp2_with fail
  refine (around _ _ _ n1 n2 (by omega) (by omega)).mono ?_; rintro e w4 ⟨rfl, rfl⟩
  rw [HF.out]
  have hc := hB3.cell (j := 0) (v := .string (nameAt k)) rfl
  have HB3 := Lib.hid hB3
  clear hB3
  go_wp2_with fail
  refine (forty_record _ _).mono ?_; rintro e w5 ⟨rfl, hx5⟩
  rw [HRR.out, HRE.out]
  have HB5 := Lib.hid (HB3.out.ext hx5)
  have HX5 : Hid (Ext w w5) := Lib.hid (HX3.out.trans hx5)
  have HR5 := Lib.hid (hrow.below hx5 (Nat.le_refl _))
  clear hc hrow hx5 HB3
  have HN := Lib.hid (Box.new w5 61 (recL k))
  go_wp2_with (refine wpList_store_new rfl 61 (.tmp 8) (.tmp 24) rfl (recL k).toArray 61 _ rfl rfl infoL rfl (recL_one k) ?_)
  have HB6 := Lib.hid (HB5.out.alloc (.cells (recL k).toArray 61))
  have HX6 : Hid (Ext w (w5.alloc (.cells (recL k).toArray 61))) := Lib.hid (Ext.alloc_ HX5.out _)
  have HR6 := Lib.hid (HR5.out.below (Ext.alloc_ (Ext.refl w5) (.cells (recL k).toArray 61)) (Nat.le_refl _))
  generalize w5.alloc (.cells (recL k).toArray 61) = w6 at *
  generalize w5.heap.size = g2 at *
  refine (forty_record x _).mono ?_; rintro e w7 ⟨rfl, hx7⟩
  have HB7 := Lib.hid (HB6.out.ext hx7)
  have HN7 := Lib.hid (HN.out.ext hx7)
  have HX7 : Hid (Ext w w7) := Lib.hid (HX6.out.trans hx7)
  have HR7 := Lib.hid (HR6.out.below hx7 (Nat.le_refl _))
  clear hx7 HB6 HB5 HN HX6 HR6 HR5 HX5 HX3 HX1
  have HRO := Lib.hid (recR_one x)
  have HRI := Lib.hid (recR_info x)
  have HRL : Hid ((zero8 : List Value).toArray.size = (recR x).toArray.size) := Lib.hid (by simp [recR_len]; rfl)
  have HZ := Lib.hid (Box.new w7 61 (recR x))
  have HFORM := Lib.hid (recs_form x)
  have hq := neq_rec k
  go_wp2_with (refine wpList_store_new rfl 61 (.tmp 10) (.tmp 29) rfl (recR x).toArray 61 _ rfl rfl HRI.out HRL.out HRO.out ?_)
  have HB8 := Lib.hid (HB7.out.alloc (.cells (recR x).toArray 61))
  have HN8 := Lib.hid (HN7.out.alloc (.cells (recR x).toArray 61))
  have HX8 : Hid (Ext w (w7.alloc (.cells (recR x).toArray 61))) := Lib.hid (Ext.alloc_ HX7.out _)
  have HR8 := Lib.hid (HR7.out.below (Ext.alloc_ (Ext.refl w7) (.cells (recR x).toArray 61)) (Nat.le_refl _))
  generalize w7.alloc (.cells (recR x).toArray 61) = w8 at *
  generalize w7.heap.size = g3 at *
  refine (ref_find x _).mono ?_; rintro e w9 ⟨rfl, hx9⟩
  have HB9 := Lib.hid (HB8.out.ext hx9)
  have HN9 := Lib.hid (HN8.out.ext hx9)
  have HZ9 := Lib.hid (HZ.out.ext hx9)
  have HX9 : Hid (Ext w w9) := Lib.hid (HX8.out.trans hx9)
  have HR9 := Lib.hid (HR8.out.below hx9 (Nat.le_refl _))
  clear hx9 HB8 HB7 HN8 HN7 HX8 HX7 HR8 HR7 HZ
  obtain ⟨a0, a1, a2, a3, a4, a5, a6, a7⟩ := box8 HN9.out
  obtain ⟨b0, b1, b2, b3, b4, b5, b6, b7⟩ := box8 HB9.out
  obtain ⟨nb, no, rfl, -⟩ := HR9.out.at_ (k := 0) (by rw [namesV_len]; simp)
  have HC : Hid (w9.cell? ⟨nb, no + k, none⟩ = some (.string (nameAt k))) := Lib.hid (HR9.out.cell0 (by simp [namesV, hk]))
  have hk40 : (k : Int) < 40 := by omega
  have HLV : Hid (∀ w, Calls Try.prog 39 #[] w fun e w' => e = .returned (.bool true) ∧ Ext w w') := Lib.hid law12_lives
  rcases HFORM.out with ⟨hz, he⟩ | ⟨hz, he, hr⟩
  · rw [he]
    have HZ1 := Lib.hid hz
    clear he HFORM HRI HRO HRL
    generalize findZ x = at_ at *
    go_upto_region 12 with fail
    clear a0 a1 a2 a3 a4 a5 a6 a7 b1 b2 b3 b4 b5 b6 b7 hq
    have hcx := ExtW.cell HC.out
    have hcy := ExtW.cell b0
    clear b0
    refine region_ext (by kernel_rfl) (by kernel_rfl) ?_
    repeat (go_big_quiet_step ((exact ext_of (HLV.out _))))
    refine wpQuiet_nil ?_
    rintro _ ⟨⟨wx, hx⟩, rfl⟩
    go_wp2
    go_ret
    exact ⟨rfl, HX9.out.trans hx⟩
  · rw [he, hz]
    have hz9 := HZ9.out
    rw [hr] at hz9
    have z0 := hz9.cell (j := 0) (v := .string ⟨#[]⟩) rfl
    have z1 := hz9.cell (j := 1) (v := .string ⟨#[]⟩) rfl
    have z2 := hz9.cell (j := 2) (v := .string ⟨#[]⟩) rfl
    have z3 := hz9.cell (j := 3) (v := .string ⟨#[]⟩) rfl
    have z4 := hz9.cell (j := 4) (v := .string ⟨#[]⟩) rfl
    have z5 := hz9.cell (j := 5) (v := .string ⟨#[]⟩) rfl
    have z6 := hz9.cell (j := 6) (v := .string ⟨#[]⟩) rfl
    have z7 := hz9.cell (j := 7) (v := .string ⟨#[]⟩) rfl
    clear he hz hr HFORM HRI HRO HRL hz9 HZ9
    generalize recR x = rx at *
    go_upto_region 12 with fail
    clear a0 a1 a2 a3 a4 a5 a6 a7 b1 b2 b3 b4 b5 b6 b7 hq z0 z1 z2 z3 z4 z5 z6 z7
    have hcx := ExtW.cell HC.out
    have hcy := ExtW.cell b0
    clear b0
    refine region_ext (by kernel_rfl) (by kernel_rfl) ?_
    repeat (go_big_quiet_step ((exact ext_of (HLV.out _))))
    refine wpQuiet_nil ?_
    rintro _ ⟨⟨wx, hx⟩, rfl⟩
    go_wp2
    go_ret
    exact ⟨rfl, HX9.out.trans hx⟩
end Go.Proofs.Ytbhmmodphjmlmaa.Forty
