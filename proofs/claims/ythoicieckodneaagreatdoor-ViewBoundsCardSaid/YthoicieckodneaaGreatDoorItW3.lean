/- Walks: item.Text, the document's. -/
import Derived.Test.YthoicieckodneaaGreatDoorItW1
import Derived.Test.YthoicieckodneaaGreatDoorJIt
import Derived.Test.YthoicieckodneaaGreatDoorJBuild
namespace Go.Proofs.YthoicieckodneaaGreatDoor.Loc
open Go.RowKit Utf All Small Strs Build EncC Pat Cls Dec Go.Proofs.YthoicieckodneaaGreatDoor.Sys
set_option linter.unusedVariables false
set_option linter.unusedSimpArgs false

theorem isB_ext {B b : Nat} {l : List UInt8} {w w' : World} (h : IsB B b l w) (hx : Ext w w') : IsB B b l w' := by
  have key : ∀ p bs, Lib.BuilderAt 107 5 B b p bs w → Lib.BuilderAt 107 5 B b p bs w' := by
    rintro p bs ⟨hB, v, hb, ho, hn⟩
    refine ⟨hB, v, (hx.block b (heap_lt hb)).trans hb, ho.kept (grown_of_ext hx none) ?_, hn⟩
    by_cases h0 : v.ownBlock = none
    · exact .inl h0
    · exact .inr h0
  exact h.imp (key _ _) (key _ _)
theorem textI_snoc {L : List It} {k : Nat} (h : k < L.length) : textI (L.take (k + 1)) = textI (L.take k) ++ L[k].2.1 := by
  rw [List.take_succ_eq_append_getElem h, textI_app]; simp [textI]
theorem textI_le {L : List It} (h : ∀ x ∈ L, x.2.1.length ≤ 1000) : ∀ k, (textI (L.take k)).length ≤ 1000 * k
  | 0 => by simp [textI]
  | k + 1 => by
    have ih := textI_le h k
    by_cases hk : k < L.length
    · have := h _ (List.getElem_mem hk)
      rw [textI_snoc hk, List.length_append]; omega
    · rw [List.take_of_length_le (by omega)] at ih ⊢
      omega
set_option maxHeartbeats 4000000 in
set_option maxRecDepth 100000 in
theorem item_text (E : Option Addr) (n c : Nat) (L : List It) (w : World) (hr : Row w E (itsV L)) (hn : L.length = n) (hl : n ≤ 5000) (ht : ∀ x ∈ L, x.2.1.length ≤ 1000) :
    Calls Tryz.prog 24 #[.slice E n c] w fun e w' => e = .returned (.string ⟨(textI L).toArray⟩) ∧ Ext w w' := by
  have HR := Lib.hid hr
  have HN := Lib.hid hn
  have HT := Lib.hid ht
  have HLE := Lib.hid (textI_le ht)
  have HALL : Hid (textI (L.take n) = textI L) := Lib.hid (by rw [List.take_of_length_le (by omega)])
  clear hr hn ht
  go_enter Tryz.func24, Tryz.ntmps24
  go_wp2
  go_loopw [8] (fun i wr => ∃ k : Nat, k ≤ n ∧ i = .int .i64 k ∧ IsB w.heap.size w.heap.size (textI (L.take k)) wr ∧ Below w.heap.size w wr) (fun i _ => n - (intOf i).toNat)
  case atStart => exact ⟨0, Nat.zero_le _, rfl, Lib.fresh_isBuilder _ _ _, (Below.refl _ _).alloc (Nat.le_refl _) _⟩
  case round =>
    obtain ⟨k, hk, rfl, hB, hbl⟩ := hrel
    by_cases hlt : k < n
    · have hkq : k < L.length := by have := HN.out; omega
      obtain ⟨bx, ox, rfl, hg⟩ := row_it (HR.out.below hbl (Nat.le_refl _)) hkq
      have HS := Lib.hid (textI_snoc hkq)
      have hle := HLE.out k
      have htx := HT.out _ (List.getElem_mem hkq)
      have HRG := Lib.hid hg
      generalize L[k] = x at *
      obtain ⟨tg, t, at_⟩ := x
      simp only at htx
      have hbx := Box.new wr 42 [.int .i64 tg, .string ⟨t.toArray⟩, .int .i64 at_]
      have hx7 : Ext wr (wr.alloc (.cells ([.int .i64 tg, .string ⟨t.toArray⟩, .int .i64 at_] : List Value).toArray 42)) := Ext.alloc_ (Ext.refl _) _
      have HB7 := Lib.hid (isB_ext hB hx7)
      have HX7 := Lib.hid (hbl.trans (hx7.mono hbl.size))
      have hsz7 := HX7.out.size
      clear hg hB hbl hx7
      go_upto_region 5 with (first
        | (refine wpList_load_mid rfl 42 (.tmp 10) rfl bx (ox + k * 3) rfl [.int .i64 tg, .string ⟨t.toArray⟩, .int .i64 at_] _ HRG.out Tryz.underlying42 rfl infoIt ?_)
        | (refine wpList_store_fresh rfl 42 (.tmp 5) (.tmp 11) rfl ([.int .i64 tg, .string ⟨t.toArray⟩, .int .i64 at_] : List Value).toArray 42 _ rfl rfl infoIt rfl (by simp [Value.oneCell']) ?_))
      generalize wr.alloc (.cells ([.int .i64 tg, .string ⟨t.toArray⟩, .int .i64 at_] : List Value).toArray 42) = w7 at *
      have c1 := hbx.cell (j := 1) (v := .string ⟨t.toArray⟩) rfl
      generalize textI (L.take k) = l at *
      have HWS := Lib.hid (write_string w.heap.size w.heap.size _ ⟨t.toArray⟩ w7 HB7.out (by rw [show (⟨t.toArray⟩ : ByteArray).size = t.length from rfl]; simp [Lib.byteCells]; omega) hsz7)
      go_wp2_with (go_at_call 62; with_reducible refine HWS.out.mono ?_; rintro e w8 ⟨rfl, hu, hb8⟩)
      have hu2 : IsB w.heap.size w.heap.size (l ++ t) w8 := .inr (by rw [strCells_l, cells_app] at hu; exact hu)
      go_roundw
      case rel => exact ⟨k + 1, by omega, by go_num, by rw [HS.out]; exact hu2, HX7.out.trans hb8⟩
      case measure => simp [intOf]; omega
    · have e : k = n := by omega
      subst e
      rw [HALL.out] at hB
      go_wp2_with fail
      refine (Tryz.Builder_String_any _ _ _ _ hB (by have := hbl.size; omega)).mono ?_
      rintro e w2 ⟨rfl, hb2⟩
      go_wp2
      go_ret
      exact ⟨rfl, hbl.trans hb2⟩
set_option maxHeartbeats 4000000 in
set_option maxRecDepth 100000 in
theorem ref15_text (E : Option Addr) (n c : Nat) (L : List It) (w : World) (hr : Row w E (itsV L)) (hn : L.length = n) (hl : n ≤ 5000) (ht : ∀ x ∈ L, x.2.1.length ≤ 1000) :
    Calls Tryz.prog 25 #[.slice E n c] w fun e w' => e = .returned (.string ⟨(textI L).toArray⟩) ∧ Ext w w' := by
  have HR := Lib.hid hr
  have HN := Lib.hid hn
  have HT := Lib.hid ht
  have HLE := Lib.hid (textI_le ht)
  have HALL : Hid (textI (L.take n) = textI L) := Lib.hid (by rw [List.take_of_length_le (by omega)])
  clear hr hn ht
  go_enter Tryz.func25, Tryz.ntmps25
  go_wp2
  go_loop [3, 4] (fun s i => ∃ k : Nat, k ≤ n ∧ i = .int .i64 k ∧ s = .string ⟨(textI (L.take k)).toArray⟩) (fun _ i => n - (intOf i).toNat)
  case atStart => exact ⟨0, Nat.zero_le _, rfl, rfl⟩
  case round =>
    obtain ⟨k, hk, rfl, rfl⟩ := hrel
    by_cases hlt : k < n
    · have hkq : k < L.length := by have := HN.out; omega
      obtain ⟨bx, ox, rfl, hg⟩ := row_it HR.out hkq
      have HS := Lib.hid (textI_snoc hkq)
      have hle := HLE.out k
      have htx := HT.out _ (List.getElem_mem hkq)
      generalize L[k] = x at *
      obtain ⟨tg, t, at_⟩ := x
      simp only at htx
      have c1 : w.cell? ⟨bx, ox + k * 3 + 1, none⟩ = some (.string ⟨t.toArray⟩) := hg 1 _ rfl
      have i1 : (k : Int) < (n : Int) := by omega
      generalize textI (L.take k) = l at *
      clear hg
      have hap := app_mk l t
      have q1 : (9223372036854775807 < l.length + t.length) = False := eq_false (by omega)
      go_wp2
      go_round
      case rel => exact ⟨k + 1, by omega, by go_num, by rw [HS.out]; first | done | rfl | rw [hap]⟩
      case measure => simp [intOf]; omega
    · have e : k = n := by omega
      subst e
      have i1 : ¬ ((k : Int) < (k : Int)) := by omega
      rw [HALL.out]
      go_wp2
      go_ret
      exact ⟨rfl, Ext.refl _⟩
end Go.Proofs.YthoicieckodneaaGreatDoor.Loc
