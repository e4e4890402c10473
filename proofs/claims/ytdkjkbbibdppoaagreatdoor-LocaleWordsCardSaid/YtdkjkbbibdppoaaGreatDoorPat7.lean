/- Patterns of numbers: the walk of plain. -/
import Derived.Test.YtdkjkbbibdppoaaGreatDoorPat6
import Derived.Test.YtdkjkbbibdppoaaGreatDoorSrc
namespace Go.Proofs.YtdkjkbbibdppoaaGreatDoor.Pat
open Go.RowKit
set_option linter.unusedVariables false
set_option linter.unusedSimpArgs false

theorem lit_acc {w v : World} (h : Ext w v) : Acc 96 2 w (v.alloc (.cells #[.int .i64 3, .string ⟨#[]⟩] 96)) (some ⟨v.heap.size, 0, none⟩) 1 1 [.int .i64 3, .string ⟨#[]⟩] :=
  Acc.lit h [.int .i64 3, .string ⟨#[]⟩] 1 rfl (by decide)
theorem Ext.grown_own {e sz : Nat} {w0 w w' : World} {A : Option Addr} {c n : Nat} {cs : List Value} (h : Acc e sz w0 w A c n cs) (hg : w.grownBy w' (Value.ownBlock (.slice A n c))) : Ext w0 w' :=
  h.ext.grown hg h.ext.size (fun k hk => (h.own.lt k hk).1)
theorem Row.grown_far {w w' : World} {B : Option Addr} {cs : List Value} {row : Option Nat} (h : Row w B cs) (hg : w.grownBy w' row) (hne : ∀ b off, B = some ⟨b, off, none⟩ → b < w.heap.size → some b ≠ row) : Row w' B cs := by
  rcases h with h | ⟨b, off, rfl, h⟩
  · exact .inl h
  · exact .inr ⟨b, off, rfl, fun j v hj => (World.cell?_of_block (hg.block b (block_lt (h j v hj)) (hne b off rfl (block_lt (h j v hj))))).trans (h j v hj)⟩
set_option maxRecDepth 100000 in
set_option maxHeartbeats 2000000 in
theorem plain_ (A B : Option Addr) (c d : Nat) (p s : List Pc) (S3 S4 : Value) (x : Nums) (w : World) (hA : Row w A (pcsV p)) (hB : Row w B (pcsV s)) (hcA : Okc A c) (hcB : Okc B d) (hp : p.length ≤ 1000000000) (hs : s.length ≤ 1000000000) :
    Calls Tryz.prog 53 #[.agg (patC (.slice A p.length c) (.slice B s.length d) S3 S4 x).toArray] w fun e w' =>
      ∃ A' c' B' d', e = .returned (.tuple #[.slice A' (p.length + 1) c', .slice B' s.length d']) ∧ Row w' A' (pcsV ((3, []) :: p)) ∧ Row w' B' (pcsV s) ∧ Fresh w A' ∧ Fresh w B' ∧ p.length + 1 ≤ c' ∧ Okc A' c' ∧ s.length ≤ d' ∧ Okc B' d' ∧ Ext w w' := by
  have hb1 := Box.new w 28 (patC (.slice A p.length c) (.slice B s.length d) S3 S4 x)
  have hx1 : Ext w (w.alloc (.cells (patC (.slice A p.length c) (.slice B s.length d) S3 S4 x).toArray 28)) := Ext.alloc_ (Ext.refl w) _
  have hs1 : (w.alloc (.cells (patC (.slice A p.length c) (.slice B s.length d) S3 S4 x).toArray 28)).heap.size = w.heap.size + 1 := by simp
  go_enter Tryz.func53, Tryz.ntmps53
  go_upto_region 1 with fail
  change Code.wp _ _ _ _ (w.alloc (.cells (patC (.slice A p.length c) (.slice B s.length d) S3 S4 x).toArray 28))
  generalize w.alloc (.cells (patC (.slice A p.length c) (.slice B s.length d) S3 S4 x).toArray 28) = w1 at *
  have k0 := hb1.cell (j := 0) (v := .slice A p.length c) rfl
  have k1 := hb1.cell (j := 1) (v := .slice B s.length d) rfl
  have HC : Hid (∀ W, Ext w1 W → Calls Tryz.prog 98 #[.slice B s.length d] W fun e w' => ∃ B' d', e = .returned (.slice B' s.length d') ∧ Row w' B' (pcsV s) ∧ s.length ≤ d' ∧ Okc B' d' ∧ Fresh W B' ∧ Ext W w') := Lib.hid (fun W hW => clone_ B d s W (hB.below (hx1.trans hW) (Nat.le_refl _)) hcB hs)
  have HRA : Hid (∀ W, Ext w1 W → Row W A (pcsV p)) := Lib.hid (fun W hW => hA.below (hx1.trans hW) (Nat.le_refl _))
  have HL := Lib.hid (pcsV_len p)
  have hE1 : Ext w1 w1 := Ext.refl w1
  have HS1 := Lib.hid hs1
  clear hs1
  go_cut [2, 3] (fun u v wx => ∃ A' c' B' d', u = .slice A' (p.length + 1) c' ∧ v = .slice B' s.length d' ∧ Row wx A' (pcsV ((3, []) :: p)) ∧ Row wx B' (pcsV s) ∧ Fresh w A' ∧ Fresh w B' ∧ p.length + 1 ≤ c' ∧ Okc A' c' ∧ s.length ≤ d' ∧ Okc B' d' ∧ Ext w wx)
  case first =>
    go_region_held3 (fun W => Ext w1 W ∧ W.cell? ⟨w.heap.size, 0, none⟩ = some (.slice A p.length c) ∧ W.cell? ⟨w.heap.size, 1, none⟩ = some (.slice B s.length d))
      (first
        | exact ⟨Ext.drew_ (Ext.refl _), k0, k1⟩
        | exact ⟨Ext.refl _, k0, k1⟩
        | (refine (fun h => ⟨h, Ext.cell_ h k0, Ext.cell_ h k1⟩) ?_; first | assumption | exact Ext.alloc_ (by assumption) _ | exact Ext.drew_ (Ext.alloc_ (Ext.refl _) _) | exact Ext.alloc_ (Ext.refl _) _ | exact Ext.drew_ (Ext.alloc_ (by assumption) _) | exact Ext.drew_ (by assumption)))
      (first
        | (refine step_src ei_pc (by rfl) (.tmp 5) (.tmp 7) (by rfl) w1 _ (some ⟨w1.heap.size, 0, none⟩) 1 1 [.int .i64 3, .string ⟨#[]⟩] (by rfl) (Acc.drew (lit_acc (Ext.refl w1))) A p.length c (pcsV p) (by rfl) (HRA.out _ (Acc.drew (lit_acc (Ext.refl w1))).ext) hcA (by rw [HL.out]; omega) (pcs_oneCell p) (by omega) (by unfold maxLen; omega) ?_; intro A1 c1 w4 hA1 hg4; have hE4 : Ext w1 w4 := hA1.ext)
        | (go_at_call 98; with_reducible refine (HC.out _ ?_).mono ?_; (first | assumption | exact Ext.drew_ (Ext.refl _) | exact Ext.drew_ (Ext.alloc_ (Ext.refl _) _)); rintro e w3 ⟨B1, d1, rfl, hB1, hB2, hB3, hB4, hx3⟩; (first | (have hE3 := (Ext.drew_ (Ext.refl w1)).trans hx3) | (have hE3 := (Ext.drew_ (Ext.alloc_ (Ext.refl w1) _)).trans hx3) | (have hE3 := hE4.trans hx3))))
    all_goals
      go_wp2_with fail
      go_meet
      have hs1 := HS1.out
      have h1 := hA1.step hx3
      exact ⟨A1, c1, B1, d1, by rw [Nat.add_comm], rfl, h1.row, hB1, fresh_weak (Acc.fresh h1) (by omega), fresh_weak hB4 (by have := hE4.size; omega), by have := h1.cap.1; omega, Acc.okc h1, hB2, hB3, hx1.trans (hE4.trans hx3)⟩
  case rest =>
    obtain ⟨A', c', B', d', rfl, rfl, h1, h2, h3, h4, h5, h6, h7, h8, h9⟩ := hcut
    go_wp2
    go_ret2
    exact ⟨A', c', B', d', rfl, h1, h2, h3, h4, h5, h6, h7, h8, h9⟩
end Go.Proofs.YtdkjkbbibdppoaaGreatDoor.Pat
