/- The law PatternResolves: pieces' texts, and how many are of a kind, are the document's. -/
import Derived.Test.YtdkjkbbibdppoaaGreatDoorPatS
import Derived.Test.YtdkjkbbibdppoaaGreatDoorPOpen
import Derived.Deep.SlicePairs
import Derived.Deep.DeepCutAuto
import Derived.Deep.RegionHeld3
import Derived.Deep.RegionWith
namespace Go.Proofs.YtdkjkbbibdppoaaGreatDoor.Pat
open Go.RowKit Go.ChangeShapes Go.WideShapes Utf All Small Strs Build EncC
set_option linter.unusedVariables false
set_option linter.unusedSimpArgs false

theorem ei_b : EI 33 106 2 24 := ei_of (z := .agg #[.int .i64 0, .string ⟨#[]⟩]) Tryz.underlying33 (by kernel_rfl) rfl (by decide)
theorem infoB : (Tryz.prog.info? 106).map (·.size) = some 2 := by kernel_rfl
theorem few_mk (l : List UInt8) (m : Nat) : fewB ⟨l.toArray⟩ m = ⟨(l.take m).toArray⟩ := by
  have hsz : (⟨l.toArray⟩ : ByteArray).size = l.length := rfl
  unfold fewB
  rw [hsz]
  split
  · refine bytes_ext ?_
    simp [ByteArray.data_extract]
  · rw [List.take_of_length_le (by omega)]
theorem few_l (l : List UInt8) (m : Nat) (w : World) (hs : l.length ≤ maxLen) (hm : m ≤ 1000000) :
    Calls Tryz.prog 25 #[.string ⟨l.toArray⟩, .int .i64 m] w fun e w' => e = .returned (.string ⟨(l.take m).toArray⟩) ∧ w = w' := by
  have := few ⟨l.toArray⟩ m w hs hm
  rwa [few_mk] at this
def ownP (p : Pc) : Pc := (aroundF p.1 4, p.2.take 6)
def ownL (xs : List Pc) : List Pc := (xs.take 8).map ownP
theorem own_snoc {xs : List Pc} {k : Nat} (hk : k < xs.length) : (xs.take (k + 1)).map ownP = (xs.take k).map ownP ++ [ownP xs[k]] := by
  rw [List.take_succ_eq_append_getElem hk, List.map_append]; rfl
theorem ownP_ok (p : Pc) : 0 ≤ (ownP p).1 ∧ (ownP p).1 < 4 ∧ (ownP p).2.length ≤ 6 := by
  have := aroundF_bd p.1 4 (by omega)
  exact ⟨this.1, this.2, by show (p.2.take 6).length ≤ 6; simp; omega⟩
theorem ownL_ok (xs : List Pc) : (ownL xs).length ≤ 8 ∧ ∀ p ∈ ownL xs, 0 ≤ p.1 ∧ p.1 < 4 ∧ p.2.length ≤ 6 := by
  refine ⟨by simp [ownL]; omega, fun p hp => ?_⟩
  obtain ⟨q, _, rfl⟩ := List.mem_map.1 hp
  exact ownP_ok q
theorem pcs_two (x : Pc) : [Value.int .i64 x.1, Value.string ⟨x.2.toArray⟩] = pcsV [x] := rfl
/-! ### of -/
/-! ### the document's Resolve -/
theorem tx_at (cur per min : List UInt8) (j : Int) (h1 : 0 < j) (h2 : j < 4) : ∃ (n : Nat) (t : List UInt8), j = n ∧ n < 4 ∧ ([strV [], strV cur, strV per, strV min] : List Value)[n]? = some (strV t) ∧ t = (if j = 1 then cur else if j = 2 then per else if j = 3 then min else []) := by
  rcases (by omega : j = 1 ∨ j = 2 ∨ j = 3) with rfl | rfl | rfl
  · exact ⟨1, cur, rfl, by omega, rfl, rfl⟩
  · exact ⟨2, per, rfl, by omega, rfl, rfl⟩
  · exact ⟨3, min, rfl, by omega, rfl, rfl⟩
set_option maxHeartbeats 4000000 in
set_option maxRecDepth 100000 in
theorem resolve_ref (A : Option Addr) (c : Nat) (cur per min : List UInt8) (l : List Pc) (w : World) (hA : Row w A (pcsV l)) (hl : l.length ≤ 1000) (hc : cur.length ≤ 100000) (hp : per.length ≤ 100000) (hm : min.length ≤ 100000) (hk : ∀ p ∈ l, 0 ≤ p.1 ∧ p.1 < 4 ∧ p.2.length ≤ 6) :
    Calls Tryz.prog 140 #[.slice A l.length c, .string ⟨cur.toArray⟩, .string ⟨per.toArray⟩, .string ⟨min.toArray⟩] w fun e w' => e = .returned (.string ⟨(resF cur per min l).toArray⟩) ∧ Ext w w' := by
  have HK := Lib.hid hk
  clear hk
  have hbx := Box.new w 9 [strV [], strV cur, strV per, strV min]
  have hx0 : Ext w (w.alloc (.cells [strV [], strV cur, strV per, strV min].toArray 9)) := Ext.alloc_ (Ext.refl w) _
  go_enter Tryz.func140, Tryz.ntmps140
  go_wp2
  change Code.wp _ _ _ _ (w.alloc (.cells [strV [], strV cur, strV per, strV min].toArray 9))
  have HROW : Hid (Row (w.alloc (.cells [strV [], strV cur, strV per, strV min].toArray 9)) (some ⟨w.heap.size, 0, none⟩) [strV [], strV cur, strV per, strV min]) := Lib.hid hbx.row
  clear hbx
  generalize w.alloc (.cells [strV [], strV cur, strV per, strV min].toArray 9) = w1 at *
  go_loop [10, 11] (fun s i => ∃ k : Nat, k ≤ l.length ∧ i = .int .i64 k ∧ s = .string ⟨(resF cur per min (l.take k)).toArray⟩ ∧ (resF cur per min (l.take k)).length ≤ 100000 * k) (fun _ i => l.length - (intOf i).toNat)
  case atStart => exact ⟨0, Nat.zero_le _, rfl, rfl, by simp [resF]⟩
  case round =>
    obtain ⟨k, hk, rfl, rfl, hle⟩ := hrel
    by_cases hlt : k < l.length
    · obtain ⟨b, off, rfl, hc1, hc2⟩ := row_pc (hA.below hx0 (Nat.le_refl _)) hlt
      have HS := Lib.hid (resF_snoc cur per min hlt)
      obtain ⟨ht0, ht1, ht2⟩ := HK.out _ (List.getElem_mem hlt)
      generalize l[k] = x at *
      obtain ⟨j, t⟩ := x
      simp only at ht0 ht1 ht2
      generalize resF cur per min (l.take k) = tx at *
      by_cases hj : 0 < j
      · obtain ⟨n, u, rfl, hn4, hnu, hu⟩ := tx_at cur per min j hj ht1
        have hcn : w1.cell? ⟨w.heap.size, n, none⟩ = some (.string ⟨u.toArray⟩) := HROW.out.cell00 hnu
        have HV : Hid ((if ((n : Int), t).1 = 1 then cur else if ((n : Int), t).1 = 2 then per else if ((n : Int), t).1 = 3 then min else ((n : Int), t).2) = u) := Lib.hid (by
          rw [hu]
          rcases (by omega : n = 1 ∨ n = 2 ∨ n = 3) with rfl | rfl | rfl <;> rfl)
        have hul : u.length ≤ 100000 := by
          rw [hu]
          (repeat' split) <;> first | assumption | simp
        have hgt : (n : Int) > 0 := hj
        clear hu hnu
        go_wp2
        go_round
        case rel => exact ⟨k + 1, by omega, by go_num, by rw [HS.out, HV.out, app_mk], by rw [HS.out, HV.out, List.length_append]; omega⟩
        case measure => simp [intOf]; omega
      · have e0 : j = 0 := by omega
        subst e0
        have HV : Hid ((if ((0 : Int), t).1 = 1 then cur else if ((0 : Int), t).1 = 2 then per else if ((0 : Int), t).1 = 3 then min else ((0 : Int), t).2) = t) := Lib.hid rfl
        go_wp2
        go_round
        case rel => exact ⟨k + 1, by omega, by go_num, by rw [HS.out, HV.out, app_mk], by rw [HS.out, HV.out, List.length_append]; omega⟩
        case measure => simp [intOf]; omega
    · have e : k = l.length := by omega
      subst e
      rw [List.take_length]
      go_wp2
      go_ret
      exact ⟨rfl, hx0⟩
theorem count_k (A : Option Addr) (c n : Nat) (l : List Pc) (k : Int) (w : World) (hn : l.length = n) (hr : Row w A (pcsV l)) (hl : l.length ≤ 10000000000) :
    Calls Tryz.prog 51 #[.slice A n c, .int .i64 k] w fun e w' => e = .returned (.int .i64 (cntK k l)) ∧ Ext w w' := by
  subst hn; exact count_ A c l k w hr hl
/-! ### what comes in -/
theorem row_of_pcs {w : World} {b off : Nat} {xs : List Pc} (h : ∀ i (hi : i < xs.length), w.cell? ⟨b, off + i * 2, none⟩ = some (.int .i64 xs[i].1) ∧ w.cell? ⟨b, off + i * 2 + 1, none⟩ = some (.string ⟨xs[i].2.toArray⟩)) : Row w (some ⟨b, off, none⟩) (pcsV xs) := by
  refine .inr ⟨b, off, rfl, fun j v hv => ?_⟩
  have hj : j < 2 * xs.length := by
    rw [← pcsV_len]
    exact (List.getElem?_eq_some_iff.1 hv).1
  obtain ⟨i, r, hr, rfl⟩ : ∃ i r, r < 2 ∧ j = i * 2 + r := ⟨j / 2, j % 2, Nat.mod_lt _ (by omega), by omega⟩
  have hi : i < xs.length := by omega
  obtain ⟨p1, p2⟩ := pcs_at xs i hi
  obtain ⟨c1, c2⟩ := h i hi
  rcases (by omega : r = 0 ∨ r = 1) with rfl | rfl
  · rw [Nat.add_zero] at hv ⊢
    rw [p1] at hv
    rw [← Option.some.inj hv]; exact c1
  · rw [p2] at hv
    rw [← Option.some.inj hv, ← Nat.add_assoc]; exact c2
theorem open_pcs {H : Type} {enc : TypeId × Value → H} {W : World} {v : Value} {d : DataW H} {ps : List MemPlace} (hv : ∃ a len cap, v = .slice a len cap) (h : DataW.Trod enc Tryz.prog W 0 (fun _ => true) true 33 v d ps) :
    ∃ (A : Option Addr) (cap : Nat) (xs : List Pc), v = .slice A xs.length cap ∧ xs.length ≤ cap ∧ cap ≤ maxLen ∧ Row W A (pcsV xs) ∧ ∀ x ∈ xs, i64 x.1 ∧ x.2.length ≤ maxLen := by
  obtain ⟨a, len, cap, rfl⟩ := hv
  obtain ⟨fuel, hf⟩ := h
  rcases Deep.open_slice_pairs Tryz.underlying33 Tryz.underlying106 (by kernel_rfl) rfl rfl (by kernel_rfl) (by kernel_rfl) hf with ⟨hcs, _⟩ | ⟨x, l, c, m, n, V0, V1, D0, D1, P0, P1, hcs, _, hl, hm, hmm, _, hcell⟩
  · simp [Value.cells] at hcs
    obtain ⟨rfl, rfl, rfl⟩ := hcs
    exact ⟨none, 0, [], rfl, Nat.le_refl _, Nat.zero_le _, .inl rfl, by simp⟩
  · simp [Value.cells] at hcs
    obtain ⟨rfl, rfl, rfl⟩ := hcs
    have hmc : m = cap := by simpa using hmm
    subst hmc
    have each : ∀ i, i < m → ∃ (n : Int) (t : ByteArray), W.cell? (x.add (i * 2)) = some (.int .i64 n) ∧ W.cell? (x.add (i * 2 + 1)) = some (.string t) ∧ i64 n ∧ t.size ≤ maxLen := by
      intro i hi
      obtain ⟨e1, e2, e3, e4⟩ := hcell i hi
      obtain ⟨z, hz, _, hw⟩ := DataW.trod_int Tryz.underlying3 e3
      obtain ⟨t, hts, _, hsz⟩ := DataW.trod_string Tryz.underlying9 e4
      injection hz with hz _
      injection hts with hts _
      exact ⟨z, t, by rw [e1, hz], by rw [e2, hts], i64_of hw, hsz⟩
    let f : Nat → Pc := fun i => if hi : i < m then ((each i hi).choose, (each i hi).choose_spec.choose.data.toList) else (0, [])
    have hf : ∀ i (hi : i < m), W.cell? (x.add (i * 2)) = some (.int .i64 (f i).1) ∧ W.cell? (x.add (i * 2 + 1)) = some (.string ⟨(f i).2.toArray⟩) ∧ i64 (f i).1 ∧ (f i).2.length ≤ maxLen := by
      intro i hi
      have hs := (each i hi).choose_spec.choose_spec
      have e : f i = ((each i hi).choose, (each i hi).choose_spec.choose.data.toList) := dif_pos hi
      rw [e]
      exact ⟨hs.1, hs.2.1, hs.2.2.1, by simpa using hs.2.2.2⟩
    refine ⟨some x, m, (List.range len).map f, by simp, by simpa using hl, hm, ?_, ?_⟩
    · by_cases h0 : len = 0
      · subst h0; exact .inl rfl
      · obtain ⟨b, off, sp⟩ := x
        have hsp : sp = none := by
          have := World.cell?_spot (hf 0 (by omega)).1
          simpa [Addr.add] using this
        subst hsp
        refine row_of_pcs fun i hi => ?_
        have hi' : i < m := by simp at hi; omega
        have hfi := hf i hi'
        simp only [List.getElem_map, List.getElem_range]
        have ea : ∀ k, (⟨b, off, none⟩ : Addr).add k = ⟨b, off + k, none⟩ := by
          intro k
          unfold Addr.add
          split
          · rename_i h; subst h; rfl
          · rfl
        rw [ea, ea] at hfi
        exact ⟨hfi.1, by rw [Nat.add_assoc]; exact hfi.2.1⟩
    · intro y hy
      obtain ⟨i, hi, rfl⟩ := List.mem_map.1 hy
      exact (hf i (by simp at hi; omega)).2.2
end Go.Proofs.YtdkjkbbibdppoaaGreatDoor.Pat
