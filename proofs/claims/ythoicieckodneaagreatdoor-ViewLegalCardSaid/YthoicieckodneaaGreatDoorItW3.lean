/- Walks: item.Text, the document's; item.Tags; item.Find. -/
import Derived.Test.YthoicieckodneaaGreatDoorItW1
import Derived.Test.YthoicieckodneaaGreatDoorJIt
import Derived.Test.YthoicieckodneaaGreatDoorJBuild
namespace Go.Proofs.YthoicieckodneaaGreatDoor.Loc
open Go.RowKit Utf All Small Strs Build EncC Pat Cls Dec Go.Proofs.YthoicieckodneaaGreatDoor.Sys
set_option linter.unusedVariables false
set_option linter.unusedSimpArgs false

theorem isB_ext {B b : Nat} {l : List UInt8} {w w' : World} (h : IsB B b l w) (hx : Ext w w') : IsB B b l w' := by
  have key : ∀ p bs, Lib.BuilderAt 107 5 B b p bs w → Lib.BuilderAt 107 5 B b p bs w' := by
    rintro p bs ⟨hB, v, hb, ho, hn⟩
    refine ⟨hB, v, (hx.block b (heap_lt hb)).trans hb, ho.kept (grown_of_ext hx none) ?_, hn⟩
    by_cases h0 : v.ownBlock = none
    · exact .inl h0
    · exact .inr h0
  exact h.imp (key _ _) (key _ _)
theorem textI_snoc {L : List It} {k : Nat} (h : k < L.length) : textI (L.take (k + 1)) = textI (L.take k) ++ L[k].2.1 := by
  rw [List.take_succ_eq_append_getElem h, textI_app]; simp [textI]
theorem textI_le {L : List It} (h : ∀ x ∈ L, x.2.1.length ≤ 1000) : ∀ k, (textI (L.take k)).length ≤ 1000 * k
  | 0 => by simp [textI]
  | k + 1 => by
    have ih := textI_le h k
    by_cases hk : k < L.length
    · have := h _ (List.getElem_mem hk)
      rw [textI_snoc hk, List.length_append]; omega
    · rw [List.take_of_length_le (by omega)] at ih ⊢
      omega
set_option maxHeartbeats 4000000 in
set_option maxRecDepth 100000 in
theorem item_text (E : Option Addr) (n c : Nat) (L : List It) (w : World) (hr : Row w E (itsV L)) (hn : L.length = n) (hl : n ≤ 5000) (ht : ∀ x ∈ L, x.2.1.length ≤ 1000) :
    Calls Tryz.prog 24 #[.slice E n c] w fun e w' => e = .returned (.string ⟨(textI L).toArray⟩) ∧ Ext w w' := by
  have HR := Lib.hid hr
  have HN := Lib.hid hn
  have HT := Lib.hid ht
  have HLE := Lib.hid (textI_le ht)
  have HALL : Hid (textI (L.take n) = textI L) := Lib.hid (by rw [List.take_of_length_le (by omega)])
  clear hr hn ht
  go_enter Tryz.func24, Tryz.ntmps24
  go_wp2
  go_loopw [8] (fun i wr => ∃ k : Nat, k ≤ n ∧ i = .int .i64 k ∧ IsB w.heap.size w.heap.size (textI (L.take k)) wr ∧ Below w.heap.size w wr) (fun i _ => n - (intOf i).toNat)
  case atStart => exact ⟨0, Nat.zero_le _, rfl, Lib.fresh_isBuilder _ _ _, (Below.refl _ _).alloc (Nat.le_refl _) _⟩
  case round =>
    obtain ⟨k, hk, rfl, hB, hbl⟩ := hrel
    by_cases hlt : k < n
    · have hkq : k < L.length := by have := HN.out; omega
      obtain ⟨bx, ox, rfl, hg⟩ := row_it (HR.out.below hbl (Nat.le_refl _)) hkq
      have HS := Lib.hid (textI_snoc hkq)
      have hle := HLE.out k
      have htx := HT.out _ (List.getElem_mem hkq)
      have HRG := Lib.hid hg
      generalize L[k] = x at *
      obtain ⟨tg, t, at_⟩ := x
      simp only at htx
      have hbx := Box.new wr 42 [.int .i64 tg, .string ⟨t.toArray⟩, .int .i64 at_]
      have hx7 : Ext wr (wr.alloc (.cells ([.int .i64 tg, .string ⟨t.toArray⟩, .int .i64 at_] : List Value).toArray 42)) := Ext.alloc_ (Ext.refl _) _
      have HB7 := Lib.hid (isB_ext hB hx7)
      have HX7 := Lib.hid (hbl.trans (hx7.mono hbl.size))
      have hsz7 := HX7.out.size
      clear hg hB hbl hx7
      go_upto_region 5 with (first
        | (refine wpList_load_mid rfl 42 (.tmp 10) rfl bx (ox + k * 3) rfl [.int .i64 tg, .string ⟨t.toArray⟩, .int .i64 at_] _ HRG.out Tryz.underlying42 rfl infoIt ?_)
        | (refine wpList_store_fresh rfl 42 (.tmp 5) (.tmp 11) rfl ([.int .i64 tg, .string ⟨t.toArray⟩, .int .i64 at_] : List Value).toArray 42 _ rfl rfl infoIt rfl (by simp [Value.oneCell']) ?_))
      generalize wr.alloc (.cells ([.int .i64 tg, .string ⟨t.toArray⟩, .int .i64 at_] : List Value).toArray 42) = w7 at *
      have c1 := hbx.cell (j := 1) (v := .string ⟨t.toArray⟩) rfl
      generalize textI (L.take k) = l at *
      have HWS := Lib.hid (write_string w.heap.size w.heap.size _ ⟨t.toArray⟩ w7 HB7.out (by rw [show (⟨t.toArray⟩ : ByteArray).size = t.length from rfl]; simp [Lib.byteCells]; omega) hsz7)
      go_wp2_with (go_at_call 62; with_reducible refine HWS.out.mono ?_; rintro e w8 ⟨rfl, hu, hb8⟩)
      have hu2 : IsB w.heap.size w.heap.size (l ++ t) w8 := .inr (by rw [strCells_l, cells_app] at hu; exact hu)
      go_roundw
      case rel => exact ⟨k + 1, by omega, by go_num, by rw [HS.out]; exact hu2, HX7.out.trans hb8⟩
      case measure => simp [intOf]; omega
    · have e : k = n := by omega
      subst e
      rw [HALL.out] at hB
      go_wp2_with fail
      refine (Tryz.Builder_String_any _ _ _ _ hB (by have := hbl.size; omega)).mono ?_
      rintro e w2 ⟨rfl, hb2⟩
      go_wp2
      go_ret
      exact ⟨rfl, hbl.trans hb2⟩
set_option maxHeartbeats 4000000 in
set_option maxRecDepth 100000 in
theorem ref15_text (E : Option Addr) (n c : Nat) (L : List It) (w : World) (hr : Row w E (itsV L)) (hn : L.length = n) (hl : n ≤ 5000) (ht : ∀ x ∈ L, x.2.1.length ≤ 1000) :
    Calls Tryz.prog 25 #[.slice E n c] w fun e w' => e = .returned (.string ⟨(textI L).toArray⟩) ∧ Ext w w' := by
  have HR := Lib.hid hr
  have HN := Lib.hid hn
  have HT := Lib.hid ht
  have HLE := Lib.hid (textI_le ht)
  have HALL : Hid (textI (L.take n) = textI L) := Lib.hid (by rw [List.take_of_length_le (by omega)])
  clear hr hn ht
  go_enter Tryz.func25, Tryz.ntmps25
  go_wp2
  go_loop [3, 4] (fun s i => ∃ k : Nat, k ≤ n ∧ i = .int .i64 k ∧ s = .string ⟨(textI (L.take k)).toArray⟩) (fun _ i => n - (intOf i).toNat)
  case atStart => exact ⟨0, Nat.zero_le _, rfl, rfl⟩
  case round =>
    obtain ⟨k, hk, rfl, rfl⟩ := hrel
    by_cases hlt : k < n
    · have hkq : k < L.length := by have := HN.out; omega
      obtain ⟨bx, ox, rfl, hg⟩ := row_it HR.out hkq
      have HS := Lib.hid (textI_snoc hkq)
      have hle := HLE.out k
      have htx := HT.out _ (List.getElem_mem hkq)
      generalize L[k] = x at *
      obtain ⟨tg, t, at_⟩ := x
      simp only at htx
      have c1 : w.cell? ⟨bx, ox + k * 3 + 1, none⟩ = some (.string ⟨t.toArray⟩) := hg 1 _ rfl
      have i1 : (k : Int) < (n : Int) := by omega
      generalize textI (L.take k) = l at *
      clear hg
      have hap := app_mk l t
      have q1 : (9223372036854775807 < l.length + t.length) = False := eq_false (by omega)
      go_wp2
      go_round
      case rel => exact ⟨k + 1, by omega, by go_num, by rw [HS.out]; first | done | rfl | rw [hap]⟩
      case measure => simp [intOf]; omega
    · have e : k = n := by omega
      subst e
      have i1 : ¬ ((k : Int) < (k : Int)) := by omega
      rw [HALL.out]
      go_wp2
      go_ret
      exact ⟨rfl, Ext.refl _⟩
set_option maxHeartbeats 4000000 in
set_option maxRecDepth 100000 in
theorem item_tags (E : Option Addr) (n c : Nat) (L : List It) (w : World) (hr : Row w E (itsV L)) (hn : L.length = n) (hl : n ≤ 5000) :
    Calls Tryz.prog 26 #[.slice E n c] w fun e w' => ∃ F c', e = .returned (.slice F n c') ∧ Row w' F (L.map fun x => Value.int .i64 x.1) ∧ Ext w w' := by
  have HR := Lib.hid hr
  have HN := Lib.hid hn
  have HALL : Hid (((L.take n).map fun x => Value.int .i64 x.1) = L.map fun x => Value.int .i64 x.1) := Lib.hid (by rw [List.take_of_length_le (by omega)])
  have HSN : Hid (∀ k (hk : k < L.length), ((L.take (k + 1)).map fun x => Value.int .i64 x.1) = ((L.take k).map fun x => Value.int .i64 x.1) ++ [.int .i64 L[k].1]) := Lib.hid fun k hk => by
    rw [List.take_succ_eq_append_getElem hk, List.map_append]; rfl
  clear hr hn
  go_enter Tryz.func26, Tryz.ntmps26
  go_wp2
  go_loopw [3, 8] (fun v i wr => ∃ (k : Nat) (F : Option Addr) (c' : Nat), k ≤ n ∧ i = .int .i64 k ∧ v = .slice F k c' ∧ Acc 3 1 w wr F c' k ((L.take k).map fun x => Value.int .i64 x.1)) (fun _ i _ => n - (intOf i).toNat)
  case atStart => exact ⟨0, none, 0, Nat.zero_le _, rfl, rfl, Acc.start _ _ _⟩
  case round =>
    obtain ⟨k, F, c', hk, rfl, rfl, hacc⟩ := hrel
    by_cases hlt : k < n
    · have hkq : k < L.length := by have := HN.out; omega
      have HS := Lib.hid (HSN.out k hkq)
      obtain ⟨bx, ox, rfl, hg⟩ := row_it (HR.out.below hacc.ext (Nat.le_refl _)) hkq
      have HRG := Lib.hid hg
      generalize L[k] = x at *
      obtain ⟨tg, t, at_⟩ := x
      simp only at HS
      generalize ((L.take k).map fun x => Value.int .i64 x.1) = out at *
      have hbx := Box.new wr 42 [.int .i64 tg, .string ⟨t.toArray⟩, .int .i64 at_]
      have HA7 := Lib.hid (hacc.alloc (.cells ([.int .i64 tg, .string ⟨t.toArray⟩, .int .i64 at_] : List Value).toArray 42))
      clear hacc hg
      go_upto_region 5 with (first
        | (refine wpList_load_mid rfl 42 (.tmp 10) rfl bx (ox + k * 3) rfl [.int .i64 tg, .string ⟨t.toArray⟩, .int .i64 at_] _ HRG.out Tryz.underlying42 rfl infoIt ?_)
        | (refine wpList_store_fresh rfl 42 (.tmp 5) (.tmp 11) rfl ([.int .i64 tg, .string ⟨t.toArray⟩, .int .i64 at_] : List Value).toArray 42 _ rfl rfl infoIt rfl (by simp [Value.oneCell']) ?_))
      generalize wr.alloc (.cells ([.int .i64 tg, .string ⟨t.toArray⟩, .int .i64 at_] : List Value).toArray 42) = w7 at *
      have c0 := hbx.cell (j := 0) (v := .int .i64 tg) rfl
      go_wp2_with (at_builtin; refine wp_app ei_int rfl (.tmp 12) (.tmp 15) rfl w _ F c' k _ rfl HA7.out [.int .i64 tg] 1 1 rfl rfl (by simp [Value.oneCell']) (by omega) (by unfold maxLen; omega) ?_; intro A1 c1 w5 hA5 _ _)
      exact ⟨⟨k + 1, A1, c1, by omega, by go_num, rfl, by rw [HS.out]; exact hA5⟩, by simp [intOf]; omega⟩
    · have e : k = n := by omega
      subst e
      rw [HALL.out] at hacc
      go_wp2
      go_ret
      exact ⟨F, c', rfl, hacc.row, hacc.ext⟩
set_option maxHeartbeats 1000000 in
theorem find1 (x : It) (b0 : Nat) (k : Int) (w : World) (h0 : w.cell? ⟨b0, 0, none⟩ = some (.int .i64 k)) : Calls Tryz.prog 58 #[.agg #[.int .i64 x.1, .string ⟨x.2.1.toArray⟩, .int .i64 x.2.2], .pointer (some ⟨b0, 0, none⟩)] w fun e w' => e = .returned (.bool (hasA k x)) ∧ Ext w w' := by
  obtain ⟨tg, t, at_⟩ := x
  unfold hasA
  have hbx := Box.new w 42 [.int .i64 tg, .string ⟨t.toArray⟩, .int .i64 at_]
  have hx1 : Ext w (w.alloc (.cells ([.int .i64 tg, .string ⟨t.toArray⟩, .int .i64 at_] : List Value).toArray 42)) := Ext.alloc_ (Ext.refl _) _
  have h1 := Ext.cell_ hx1 h0
  have c2 := hbx.cell (j := 2) (v := .int .i64 at_) rfl
  have HX := Lib.hid hx1
  go_enter Tryz.func58, Tryz.ntmps58
  go_upto_region 1 with fail
  change Code.wp _ _ _ _ (w.alloc (.cells ([.int .i64 tg, .string ⟨t.toArray⟩, .int .i64 at_] : List Value).toArray 42))
  generalize w.alloc (.cells ([.int .i64 tg, .string ⟨t.toArray⟩, .int .i64 at_] : List Value).toArray 42) = w1 at *
  go_wp2
  go_ret
  exact ⟨rfl, HX.out⟩
set_option maxHeartbeats 1000000 in
theorem index_find (A : Option Addr) (n c b0 : Nat) (kk : Int) (l : List It) (w : World) (hr : Row w A (itsV l)) (hn : l.length = n) (hl : n ≤ 5000) (h0 : w.cell? ⟨b0, 0, none⟩ = some (.int .i64 kk)) :
    Calls Tryz.prog 57 #[.slice A n c, .func (.func 58) #[] #[.pointer (some ⟨b0, 0, none⟩)]] w fun e w' => e = .returned (.int .i64 (findZ l kk)) ∧ Ext w w' := by
  have HF : Hid (findZ l kk = idxF (hasA kk) l) := Lib.hid rfl
  rw [HF.out]
  subst hn
  go_enter Tryz.func57, Tryz.ntmps57
  go_wp2
  go_loopw [5, 8] (fun _ i wr => ∃ k : Nat, k ≤ l.length ∧ i = .int .i64 k ∧ Ext w wr ∧ Hid ((l.take k).any (hasA kk) = false)) (fun _ i _ => l.length - (intOf i).toNat)
  case atStart => exact ⟨0, Nat.zero_le _, rfl, Ext.refl _, Lib.hid (by simp)⟩
  case round =>
    obtain ⟨k, hk, rfl, hx, HK⟩ := hrel
    by_cases hlt : k < l.length
    · obtain ⟨b, off, rfl, hg⟩ := row_it (hr.below hx (Nat.le_refl _)) hlt
      have HA := Lib.hid (idxF_at (hasA kk) l k hlt HK.out)
      have HT := Lib.hid (any_snoc (hasA kk) l k hlt)
      have HR := Lib.hid hg
      have HX := Lib.hid hx
      have h0r := Ext.cell_ hx h0
      have HC : Hid (∀ W, Ext wr W → Calls Tryz.prog 58 #[.agg #[.int .i64 l[k].1, .string ⟨l[k].2.1.toArray⟩, .int .i64 l[k].2.2], .pointer (some ⟨b0, 0, none⟩)] W fun e w' => e = .returned (.bool (hasA kk l[k])) ∧ Ext W w') := Lib.hid fun W hW => find1 l[k] b0 kk W (Ext.cell_ hW h0r)
      clear hx hg
      generalize l[k] = x at *
      cases hb : hasA kk x
      · have HB := Lib.hid hb
        clear hb
        go_wp2_with (first | (refine wpList_load_mid rfl 42 (.tmp 14) rfl b (off + k * 3) rfl [.int .i64 x.1, .string ⟨x.2.1.toArray⟩, .int .i64 x.2.2] _ HR.out Tryz.underlying42 rfl infoIt ?_) | (refine (HC.out _ (Ext.refl _)).mono ?_; rintro e w2 ⟨rfl, hx2⟩; rw [HB.out]))
        go_roundw
        case rel => exact ⟨k + 1, by omega, by go_num, HX.out.trans hx2, Lib.hid (by rw [HT.out, HK.out, HB.out]; rfl)⟩
        case measure => simp [intOf]; omega
      · have HB := Lib.hid hb
        clear hb
        go_wp2_with (first | (refine wpList_load_mid rfl 42 (.tmp 14) rfl b (off + k * 3) rfl [.int .i64 x.1, .string ⟨x.2.1.toArray⟩, .int .i64 x.2.2] _ HR.out Tryz.underlying42 rfl infoIt ?_) | (refine (HC.out _ (Ext.refl _)).mono ?_; rintro e w2 ⟨rfl, hx2⟩; rw [HB.out]))
        go_ret
        exact ⟨by rw [HA.out HB.out]; rfl, HX.out.trans hx2⟩
    · have e : k = l.length := by omega
      subst e
      rw [List.take_length] at HK
      go_wp2
      go_ret
      exact ⟨by rw [idxF_none _ _ HK.out]; rfl, hx⟩
set_option maxHeartbeats 1000000 in
theorem item_find (A : Option Addr) (n c : Nat) (kk : Int) (l : List It) (w : World) (hr : Row w A (itsV l)) (hn : l.length = n) (hl : n ≤ 5000) :
    Calls Tryz.prog 20 #[.slice A n c, .int .i64 kk] w fun e w' => e = .returned (.int .i64 (findZ l kk)) ∧ Ext w w' := by
  have b1 := Box.new w 3 [.int .i64 kk]
  have hx1 : Ext w (w.alloc (.cells ([.int .i64 kk] : List Value).toArray 3)) := Ext.alloc_ (Ext.refl w) _
  have HC := Lib.hid (index_find A n c w.heap.size kk l (w.alloc (.cells ([.int .i64 kk] : List Value).toArray 3)) (hr.below hx1 (Nat.le_refl _)) hn hl (b1.cell (j := 0) rfl))
  have HX := Lib.hid hx1
  generalize findZ l kk = z at *
  clear hr hn b1 hx1
  go_enter Tryz.func20, Tryz.ntmps20
  go_upto_region 1 with fail
  change Code.wp _ _ _ _ (w.alloc (.cells ([.int .i64 kk] : List Value).toArray 3))
  generalize w.alloc (.cells ([.int .i64 kk] : List Value).toArray 3) = w1 at *
  go_wp2_with (go_at_call 57; with_reducible refine HC.out.mono ?_; rintro e w2 ⟨rfl, hx2⟩)
  go_ret
  exact ⟨rfl, HX.out.trans hx2⟩
end Go.Proofs.YthoicieckodneaaGreatDoor.Loc
