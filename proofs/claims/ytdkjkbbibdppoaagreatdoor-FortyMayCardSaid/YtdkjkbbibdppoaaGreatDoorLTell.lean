/- Walks: what a locale tells: its record, digits, least numbers of digits; a record as the program has it. -/
import Derived.Test.YtdkjkbbibdppoaaGreatDoorLRef2
import Derived.Test.YtdkjkbbibdppoaaGreatDoorJLocB
namespace Go.Proofs.YtdkjkbbibdppoaaGreatDoor.Loc
open Go.RowKit Utf All Small Strs Build EncC Pat Cls Dec Go.Proofs.YtdkjkbbibdppoaaGreatDoor.Sys
set_option linter.unusedVariables false
set_option linter.unusedSimpArgs false

def zero8 : List Value := [sV [], sV [], sV [], sV [], sV [], sV [], sV [], sV []]
theorem recs_one (r : Rec) : (recV r).toArray.all (·.oneCell') = true := by simp [recV, sV, Value.oneCell']
theorem infoG : (Tryz.prog.info? 43).map (·.size) = some 6 := by kernel_rfl
set_option maxHeartbeats 2000000 in
theorem of_ (r : Rec) (w : World) : Calls Tryz.prog 19 #[.agg (recV r).toArray] w fun e w' => e = .returned (.agg (recV r).toArray) ∧ Ext w w' := by
  have b1 := (Box.new w 45 (recV r)).alloc (.cells zero8.toArray 52)
  have c1 := Box.new (w.alloc (.cells (recV r).toArray 45)) 52 zero8
  have hs1 : (w.alloc (.cells (recV r).toArray 45)).heap.size = w.heap.size + 1 := by simp
  rw [hs1] at c1
  have hx1 : Ext w ((w.alloc (.cells (recV r).toArray 45)).alloc (.cells zero8.toArray 52)) := Ext.alloc_ (Ext.alloc_ (Ext.refl w) _) _
  have HR : Hid (((w.alloc (.cells (recV r).toArray 45)).alloc (.cells zero8.toArray 52)).rangeAt w.heap.size 0 [.string ⟨r.name.toArray⟩, .string ⟨r.pattern.toArray⟩, .string ⟨r.system.toArray⟩, .string ⟨r.decimal.toArray⟩, .string ⟨r.group.toArray⟩, .string ⟨r.minus.toArray⟩, .string ⟨r.percent.toArray⟩, .string ⟨r.currency.toArray⟩]) := Lib.hid b1.range
  have HC := Lib.hid c1
  have HX := Lib.hid hx1
  clear b1 c1 hs1 hx1
  go_enter Tryz.func19, Tryz.ntmps19
  go_upto_region 1 with fail
  change Code.wp _ _ _ _ ((w.alloc (.cells (recV r).toArray 45)).alloc (.cells zero8.toArray 52))
  generalize (w.alloc (.cells (recV r).toArray 45)).alloc (.cells zero8.toArray 52) = w1 at *
  go_wp2_with (first
    | (refine wpList_load_mid rfl 45 (.tmp 1) rfl w.heap.size 0 rfl _ _ HR.out Tryz.underlying45 rfl infoR ?_)
    | (refine wpList_store_row rfl 52 (.tmp 2) (.tmp 3) rfl (w.heap.size + 1) (recV r).toArray rfl rfl _ _ HC.out infoRec rfl (recs_one r) ?_))
  have hb5 := HC.out.set (recV r).toArray
  have hle : w.heap.size ≤ w.heap.size + 1 := Nat.le_succ _
  exact bodyPost_ret (v := .agg (recV r).toArray) (results_cell_row rfl _ _ (w.heap.size + 1) _ _ _ _ rfl hb5 Tryz.underlying52 rfl infoRec) rfl ⟨rfl, Ext.setRow HX.out hle _⟩
section
variable {w : World} {g : Nat} {A B C D : Option Addr} {c d a b : Nat} {l : Loc}
theorem LocR.recR (h : LocR w g A B C D c d a b l) : w.rangeAt g 0 (recV l.r) := fun j v hv => by
  rw [Nat.zero_add]
  refine h.box.cell ?_
  unfold locV
  rw [List.getElem?_append_left (List.getElem?_eq_some_iff.1 hv).1]; exact hv
theorem LocR.dig (h : LocR w g A B C D c d a b l) {k : Nat} (hk : k < l.d.length) : w.cell? ⟨g, 17 + k, none⟩ = some (.string ⟨(l.d.getD k []).toArray⟩) := by
  refine h.cell ?_
  rw [loc_digit, List.getElem?_map, List.getElem?_eq_getElem hk, List.getD_eq_getElem?_getD, List.getElem?_eq_getElem hk]; rfl
end
set_option maxHeartbeats 2000000 in
theorem record_l (g : Nat) (A B C D : Option Addr) (c d a b : Nat) (l : Loc) (w : World) (h : LocR w g A B C D c d a b l) :
    Calls Tryz.prog 40 #[.pointer (some ⟨g, 0, none⟩)] w fun e w' => e = .returned (.agg (recV l.r).toArray) ∧ Ext w w' := by
  have c1 := Box.new w 52 zero8
  have hx1 : Ext w (w.alloc (.cells zero8.toArray 52)) := Ext.alloc_ (Ext.refl w) _
  have h1 := h.ext hx1
  have HR : Hid ((w.alloc (.cells zero8.toArray 52)).rangeAt g 0 [.string ⟨l.r.name.toArray⟩, .string ⟨l.r.pattern.toArray⟩, .string ⟨l.r.system.toArray⟩, .string ⟨l.r.decimal.toArray⟩, .string ⟨l.r.group.toArray⟩, .string ⟨l.r.minus.toArray⟩, .string ⟨l.r.percent.toArray⟩, .string ⟨l.r.currency.toArray⟩]) := Lib.hid h1.recR
  have k0 := h1.cell (j := 0) (v := .string ⟨l.r.name.toArray⟩) rfl
  have HC := Lib.hid c1
  have HX := Lib.hid hx1
  clear c1 hx1 h1 h
  go_enter Tryz.func40, Tryz.ntmps40
  go_upto_region 1 with fail
  change Code.wp _ _ _ _ (w.alloc (.cells zero8.toArray 52))
  generalize w.alloc (.cells zero8.toArray 52) = w1 at *
  go_wp2_with (first
    | (refine wpList_load_mid rfl 52 (.tmp 5) rfl g 0 rfl _ _ HR.out Tryz.underlying52 rfl infoRec ?_)
    | (refine wpList_store_row rfl 52 (.tmp 2) (.tmp 6) rfl w.heap.size (recV l.r).toArray rfl rfl _ _ HC.out infoRec rfl (recs_one l.r) ?_))
  have hb5 := HC.out.set (recV l.r).toArray
  exact bodyPost_ret (v := .agg (recV l.r).toArray) (results_cell_row rfl _ _ w.heap.size _ _ _ _ rfl hb5 Tryz.underlying52 rfl infoRec) rfl ⟨rfl, Ext.setRow HX.out (Nat.le_refl _) _⟩
def digZ (l : Loc) (d : Int) : List UInt8 := if 0 ≤ d ∧ d < 10 then l.d.getD d.toNat [] else []
set_option maxHeartbeats 2000000 in
theorem digit_l (g : Nat) (A B C D : Option Addr) (c d a b : Nat) (k : Int) (l : Loc) (w : World) (h : LocR w g A B C D c d a b l) (h10 : l.d.length = 10) :
    Calls Tryz.prog 37 #[.pointer (some ⟨g, 0, none⟩), .int .i64 k] w fun e w' => e = .returned (.string ⟨(digZ l k).toArray⟩) ∧ Ext w w' := by
  have HF : Hid (digZ l k = if 0 ≤ k ∧ k < 10 then l.d.getD k.toNat [] else []) := Lib.hid rfl
  generalize digZ l k = t at *
  by_cases h0 : k < 0
  · have HE : Hid (t = []) := Lib.hid (by rw [HF.out, if_neg (by omega)])
    go_enter Tryz.func37, Tryz.ntmps37
    go_wp2
    go_ret
    exact ⟨by rw [HE.out]; rfl, Ext.refl _⟩
  · by_cases h9 : 10 ≤ k
    · have HE : Hid (t = []) := Lib.hid (by rw [HF.out, if_neg (by omega)])
      have i1 : k ≥ 10 := h9
      go_enter Tryz.func37, Tryz.ntmps37
      go_wp2
      go_ret
      exact ⟨by rw [HE.out]; rfl, Ext.refl _⟩
    · obtain ⟨n, rfl⟩ := Int.eq_ofNat_of_zero_le (by omega : 0 ≤ k)
      have HE : Hid (t = l.d.getD n []) := Lib.hid (by rw [HF.out, if_pos (by omega)]; rfl)
      have hc := h.dig (k := n) (by omega)
      have i1 : ¬ ((n : Int) ≥ 10) := by omega
      have i2 : (n : Int) < 10 := by omega
      have i3 : (0 : Int) ≤ (n : Int) := by omega
      have k0 := h.cell (j := 0) (v := .string ⟨l.r.name.toArray⟩) rfl
      generalize l.d.getD n [] = u at *
      clear h h10
      go_enter Tryz.func37, Tryz.ntmps37
      go_wp2
      go_ret
      exact ⟨by rw [HE.out]; rfl, Ext.refl _⟩
set_option maxHeartbeats 2000000 in
set_option maxRecDepth 100000 in
theorem least_l (g : Nat) (A B C D : Option Addr) (c d a b : Nat) (l : Loc) (w : World) (h : LocR w g A B C D c d a b l) :
    Calls Tryz.prog 39 #[.pointer (some ⟨g, 0, none⟩)] w fun e w' => e = .returned (.tuple #[.int .i64 l.p.num.minInt, .int .i64 l.p.num.minFrac, .int .i64 l.p.num.maxFrac]) ∧ Ext w w' := by
  have k14 := h.cell (j := 14) (v := .int .i64 l.p.num.minInt) rfl
  have k15 := h.cell (j := 15) (v := .int .i64 l.p.num.minFrac) rfl
  have k16 := h.cell (j := 16) (v := .int .i64 l.p.num.maxFrac) rfl
  generalize l.p.num.minInt = x at *
  generalize l.p.num.minFrac = y at *
  generalize l.p.num.maxFrac = z at *
  clear h
  go_enter Tryz.func39, Tryz.ntmps39
  go_wp2
  go_region_held3 (fun W => Ext w W ∧ W.cell? ⟨g, 14, none⟩ = some (.int .i64 x) ∧ W.cell? ⟨g, 15, none⟩ = some (.int .i64 y) ∧ W.cell? ⟨g, 16, none⟩ = some (.int .i64 z)) (first | exact ⟨Ext.drew_ (Ext.refl _), k14, k15, k16⟩ | assumption) (fail)
  all_goals go_wp2
  all_goals go_ret3
  all_goals exact ⟨rfl, by first | exact hHeld.1 | exact Ext.drew_ (Ext.refl _)⟩
end Go.Proofs.YtdkjkbbibdppoaaGreatDoor.Loc
