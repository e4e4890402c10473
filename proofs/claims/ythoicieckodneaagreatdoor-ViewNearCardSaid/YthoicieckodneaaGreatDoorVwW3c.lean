/- Walks: a byte's tag. -/
import Derived.Test.YthoicieckodneaaGreatDoorVwW3
namespace Go.Proofs.YthoicieckodneaaGreatDoor.Loc
open Go.RowKit Utf All Small Strs Build EncC Pat Cls Dec Go.Proofs.YthoicieckodneaaGreatDoor.Sys
set_option linter.unusedVariables false
set_option linter.unusedSimpArgs false

section
variable {vb : Nat} {E : Option Addr} {cE : Nat} {F : Option Addr} {cF : Nat} {L : List It} {S : List Nat} {w : World}
set_option maxHeartbeats 4000000 in
set_option maxRecDepth 100000 in
theorem view_tag (h : VwR w vb E cE F cF L S) (off : Int) (ho : i64 off) (hl : L.length ≤ 5000) (ht : ∀ x ∈ L, x.2.1.length ≤ 1000) : Calls Tryz.prog 42 #[.pointer (some ⟨vb, 0, none⟩), .int .i64 off] w fun e w' => e = .returned (.int .i64 (tagF L off)) ∧ Ext w w' := by
  have HR := Lib.hid h.items
  have k1 := h.box.cell (j := 0) (v := .slice E L.length cE) rfl
  have HT := Lib.hid ht
  have HTF : Hid (tagF L off = if off < 0 then -1 else tagR L off) := Lib.hid rfl
  have HTD : Hid (∀ k (hk : k < L.length) (o : Int), tagR (L.drop k) o = if o < L[k].2.1.length then L[k].1 else tagR (L.drop (k + 1)) (o - L[k].2.1.length)) := Lib.hid fun k hk o => tagR_drop (List.getElem?_eq_getElem hk) o
  have HT0 : Hid (∀ o, tagR (L.drop L.length) o = -1) := Lib.hid fun o => by rw [List.drop_length]; rfl
  clear h ht
  obtain ⟨ho1, ho2⟩ := ho
  by_cases h0 : off < 0
  · rw [HTF.out, if_pos h0]
    go_enter Tryz.func42, Tryz.ntmps42
    go_wp2
    go_ret
    exact ⟨rfl, Ext.refl _⟩
  · rw [HTF.out, if_neg h0]
    obtain ⟨N, hN⟩ : ∃ N, L.length = N := ⟨_, rfl⟩
    rw [hN] at k1 hl
    have HN := Lib.hid hN
    clear hN HTF
    generalize hz : tagR L off = z at *
    have HZ : Hid (tagR (L.drop 0) off = z) := Lib.hid hz
    clear hz
    go_enter Tryz.func42, Tryz.ntmps42
    go_wp2
    go_loopw [1, 14] (fun o i wr => ∃ (k : Nat) (q : Int), k ≤ N ∧ i = .int .i64 k ∧ o = .int .i64 q ∧ 0 ≤ q ∧ q ≤ off ∧ Hid (tagR (L.drop k) q = z) ∧ Ext w wr) (fun _ i _ => N - (intOf i).toNat)
    case atStart => exact ⟨0, off, Nat.zero_le _, rfl, rfl, by omega, Int.le_refl _, HZ, Ext.refl _⟩
    case round =>
      obtain ⟨k, q, hk, rfl, rfl, hq0, hqo, HQ, hx⟩ := hrel
      by_cases hlt : k < N
      · have hkl : k < L.length := by have := HN.out; omega
        obtain ⟨bx, ox, rfl, hg⟩ := row_it (HR.out.below hx (Nat.le_refl _)) hkl
        have HD := Lib.hid (HTD.out k (by have := HN.out; omega) q)
        have htx := HT.out _ (List.getElem_mem hkl)
        generalize L[k] = x at *
        obtain ⟨tg, t, at_⟩ := x
        simp only at hg htx
        have HRG := Lib.hid hg
        have hbx := Box.new wr 42 [.int .i64 tg, .string ⟨t.toArray⟩, .int .i64 at_]
        have HX7 := Lib.hid (Ext.alloc_ hx (.cells ([.int .i64 tg, .string ⟨t.toArray⟩, .int .i64 at_] : List Value).toArray 42))
        clear hg hx
        go_upto_region 6 with (first
          | (refine wpList_load_mid rfl 42 (.tmp 16) rfl bx (ox + k * 3) rfl [.int .i64 tg, .string ⟨t.toArray⟩, .int .i64 at_] _ HRG.out Tryz.underlying42 rfl infoIt ?_)
          | (refine wpList_store_fresh rfl 42 (.tmp 6) (.tmp 17) rfl ([.int .i64 tg, .string ⟨t.toArray⟩, .int .i64 at_] : List Value).toArray 42 _ rfl rfl infoIt rfl (by simp [Value.oneCell']) ?_))
        generalize wr.alloc (.cells ([.int .i64 tg, .string ⟨t.toArray⟩, .int .i64 at_] : List Value).toArray 42) = w7 at *
        generalize hb6 : wr.heap.size = b6 at *
        have c0 := hbx.cell (j := 0) (v := .int .i64 tg) rfl
        have c1 := hbx.cell (j := 1) (v := .string ⟨t.toArray⟩) rfl
        by_cases hq : q < (t.length : Int)
        · have HE : Hid (z = tg) := Lib.hid (by rw [← HQ.out, HD.out]; exact if_pos hq)
          go_wp2
          go_ret
          exact ⟨by rw [HE.out]; first | done | rfl, HX7.out⟩
        · have HE : Hid (tagR (L.drop (k + 1)) (q - t.length) = z) := Lib.hid (by rw [← HQ.out, HD.out]; exact (if_neg hq).symm)
          subst hb6
          go_wp2
          go_roundw
          case rel => exact ⟨k + 1, q - t.length, by omega, by go_num, rfl, by omega, by omega, HE, HX7.out⟩
          case measure => simp [intOf]; omega
      · have e : k = N := by omega
        subst e
        have HE : Hid (z = -1) := Lib.hid (by rw [← HQ.out, ← HN.out]; exact HT0.out q)
        go_wp2
        go_ret
        exact ⟨by rw [HE.out]; first | done | rfl, hx⟩
end
end Go.Proofs.YthoicieckodneaaGreatDoor.Loc
