/- Walks: the document's stops, the nearest number, the tag of a byte. -/
import Derived.Test.YthoicieckodneaaGreatDoorVwP4
import Derived.Test.YthoicieckodneaaGreatDoorVwW3
import Derived.Test.YthoicieckodneaaGreatDoorItW4
import Derived.Test.YthoicieckodneaaGreatDoorItW3
import Derived.Test.YthoicieckodneaaGreatDoorLBegin
import Derived.Test.YthoicieckodneaaGreatDoorItP5
namespace Go.Proofs.YthoicieckodneaaGreatDoor.Loc
open Go.RowKit Utf All Small Strs Build EncC Pat Cls Dec Go.Proofs.YthoicieckodneaaGreatDoor.Sys
set_option linter.unusedVariables false
set_option linter.unusedSimpArgs false

theorem its_take (L : List It) {k : Nat} (hk : k ≤ L.length) : itsV (L.take k) = (itsV L).take (k * 3) := by
  have h2 : (itsV (L.take k)).length = k * 3 := by rw [its_len, List.length_take]; omega
  have h1 : itsV L = itsV (L.take k) ++ itsV (L.drop k) := by rw [← its_app, List.take_append_drop]
  generalize itsV (L.take k) = A at *
  generalize itsV (L.drop k) = B at *
  rw [h1, ← h2]
  simp
set_option maxHeartbeats 2000000 in
set_option maxRecDepth 100000 in
theorem ref16_atom (F : Option Addr) (n c : Nat) (S : List Nat) (off : Int) (w : World) (hr : Row w F (natsV S)) (hn : S.length = n) (hl : n ≤ 100000) : Calls Tryz.prog 46 #[.slice F n c, .int .i64 off] w fun e w' => e = .returned (.int .i64 (nearTo (intsN S) off n)) ∧ w = w' := by
  have HR := Lib.hid hr
  have HN := Lib.hid hn
  have HN0 : Hid (nearTo (intsN S) off 0 = 0) := Lib.hid rfl
  have HN1 : Hid (∀ k, nearTo (intsN S) off (k + 1) = if ((S.getD k 0 : Nat) : Int) ≤ off then (k : Int) else nearTo (intsN S) off k) := Lib.hid fun k => by rw [near_succ, intsN_at]
  clear hr hn
  go_enter Tryz.func46, Tryz.ntmps46
  go_wp2
  go_loop [5, 6] (fun v i => ∃ k : Nat, k ≤ n ∧ i = .int .i64 k ∧ v = .int .i64 (nearTo (intsN S) off k)) (fun _ i => n - (intOf i).toNat)
  case atStart => exact ⟨0, Nat.zero_le _, rfl, by rw [HN0.out]⟩
  case round =>
    obtain ⟨k, hk, rfl, rfl⟩ := hrel
    by_cases hlt : k < n
    · obtain ⟨b, o, rfl, hc⟩ := nats_row HR.out (show k < S.length by have := HN.out; omega)
      have HNK := Lib.hid (HN1.out k)
      generalize S.getD k 0 = y at *
      have i1 : (k : Int) < (n : Int) := by omega
      have i2 : (0 : Int) ≤ (k : Int) := by omega
      by_cases ho : (y : Int) ≤ off
      · have HE : Hid (nearTo (intsN S) off (k + 1) = (k : Int)) := Lib.hid (by rw [HNK.out, if_pos ho])
        go_wp2
        go_round
        case rel => exact ⟨k + 1, by omega, by go_num, by rw [HE.out]⟩
        case measure => simp [intOf]; omega
      · have HE : Hid (nearTo (intsN S) off (k + 1) = nearTo (intsN S) off k) := Lib.hid (by rw [HNK.out, if_neg ho])
        go_wp2
        go_round
        case rel => exact ⟨k + 1, by omega, by go_num, by rw [HE.out]⟩
        case measure => simp [intOf]; omega
    · have e : k = n := by omega
      subst e
      have i1 : ¬ ((k : Int) < (k : Int)) := by omega
      go_wp2
      go_ret
      exact ⟨rfl, rfl⟩
theorem tag_none {L : List It} {o : Int} (h : ∀ (i : Nat) (x : It), L[i]? = some x → ¬ ((cum L i : Int) ≤ o ∧ o < (cum L (i + 1) : Int))) : tagF L o = -1 := by
  unfold tagF
  split
  · rfl
  · rename_i h0
    have key : ∀ m, m ≤ L.length → (cum L m : Int) ≤ o ∧ tagR L o = tagR (L.drop m) (o - cum L m) := by
      intro m
      induction m with
      | zero => intro _; rw [cum_zero]; exact ⟨by omega, by simp⟩
      | succ m ih =>
        intro hm
        obtain ⟨h1, h2⟩ := ih (by omega)
        have hx : L[m]? = some L[m] := List.getElem?_eq_getElem (by omega)
        have h3 := h m _ hx
        have h4 := cum_succ hx
        refine ⟨by omega, ?_⟩
        rw [h2, tagR_drop hx, if_neg (by omega)]
        congr 1
        omega
    rw [(key L.length (Nat.le_refl _)).2, List.drop_length]
    rfl
set_option maxHeartbeats 4000000 in
set_option maxRecDepth 100000 in
theorem ref16_tag (E : Option Addr) (n c : Nat) (L : List It) (off : Int) (w : World) (hr : Row w E (itsV L)) (hok : Okc E c) (hn : L.length = n) (hnc : n ≤ c) (hl : n ≤ 5000) (ht : ∀ x ∈ L, x.2.1.length ≤ 1000) :
    Calls Tryz.prog 47 #[.slice E n c, .int .i64 off] w fun e w' => e = .returned (.int .i64 (tagF L off)) ∧ Ext w w' := by
  have HR := Lib.hid hr
  have HN := Lib.hid hn
  have HT := Lib.hid ht
  have HCK : Hid (∀ k, cum L k ≤ 1000 * k) := Lib.hid fun k => textI_le ht k
  have HTX : Hid (∀ W k, k ≤ n → Ext w W → Calls Tryz.prog 25 #[.slice E k c] W fun e w' => e = .returned (.string ⟨(textI (L.take k)).toArray⟩) ∧ Ext W w') := Lib.hid fun W k hk hW => by
    refine ref15_text E k c (L.take k) W ?_ (by rw [List.length_take]; omega) (by omega) (fun x hx => ht x (List.mem_of_mem_take hx))
    have e := its_take L (show k ≤ L.length by omega)
    rw [e]
    exact (hr.below hW (Nat.le_refl _)).take
  have HTA : Hid (∀ i x, L[i]? = some x → (cum L i : Int) ≤ off → off < cum L (i + 1) → tagF L off = x.1) := Lib.hid fun i x hx h1 h2 => tag_at i x off hx h1 h2
  have HTN : Hid ((∀ (i : Nat) (x : It), L[i]? = some x → ¬ ((cum L i : Int) ≤ off ∧ off < (cum L (i + 1) : Int))) → tagF L off = -1) := Lib.hid tag_none
  have HCS : Hid (∀ k x, L[k]? = some x → cum L (k + 1) = cum L k + x.2.1.length) := Lib.hid fun k x hx => cum_succ hx
  have HCT : Hid (∀ k, (textI (L.take k)).length = cum L k) := Lib.hid fun k => rfl
  clear hr hn ht
  generalize tagF L off = z at *
  go_enter Tryz.func47, Tryz.ntmps47
  go_wp2
  go_loopw [5, 6] (fun i _ wr => ∃ k : Nat, k ≤ n ∧ i = .int .i64 k ∧ Hid (∀ (j : Nat) (x : It), j < k → L[j]? = some x → ¬ ((cum L j : Int) ≤ off ∧ off < (cum L (j + 1) : Int))) ∧ Ext w wr) (fun i _ _ => n - (intOf i).toNat)
  case atStart => exact ⟨0, Nat.zero_le _, rfl, Lib.hid (fun j x hj => by omega), Ext.refl _⟩
  case round =>
    obtain ⟨k, hk, rfl, HJ, hx⟩ := hrel
    by_cases hlt : k < n
    · have hkl : k < L.length := by have := HN.out; omega
      have HTK := Lib.hid (HTX.out wr k (by omega) hx)
      obtain ⟨bx, ox, hEe, hg⟩ := row_it (HR.out.below hx (Nat.le_refl _)) hkl
      have htx := HT.out _ (List.getElem_mem hkl)
      have hcs := HCS.out k _ (List.getElem?_eq_getElem hkl)
      have hta := HTA.out k _ (List.getElem?_eq_getElem hkl)
      have hxk : L[k]? = some L[k] := List.getElem?_eq_getElem hkl
      have HGC : Hid (∀ W, Ext wr W → W.rangeAt bx (ox + k * 3) [.int .i64 L[k].1, .string ⟨L[k].2.1.toArray⟩, .int .i64 L[k].2.2]) := Lib.hid fun W hW => Ext.range_ hW hg
      subst hEe
      have HXK := Lib.hid hxk
      clear hxk hg
      generalize L[k] = x at *
      obtain ⟨tg, t, at_⟩ := x
      simp only at htx hcs hta
      have HCK2 := Lib.hid (HCT.out k)
      have hcb := HCK.out k
      generalize hck : cum L k = ck at *
      have HCKE := Lib.hid hck
      have hck1 : cum L (k + 1) = ck + t.length := hcs
      rw [hck1] at hta
      have HTAE := Lib.hid hta
      have HCE := Lib.hid hck1
      have HX := Lib.hid hx
      have i1 : (k : Int) < (n : Int) := by omega
      have i2 : (0 : Int) ≤ (k : Int) := by omega
      have i3 : (k : Int) ≤ (c : Int) := by omega
      have HTL : Hid ((textI (L.take k)).length = ck) := Lib.hid HCK2.out
      clear hck hcs hck1 hta hx HCK2
      generalize textI (L.take k) = TX at *
      have htl := HTL.out
      go_upto_region 5 with (go_at_call 25; with_reducible refine HTK.out.mono ?_; rintro e w5 ⟨rfl, hx5⟩)
      have hg5 := HGC.out w5 hx5
      have c0 : w5.cell? ⟨bx, ox + k * 3, none⟩ = some (.int .i64 tg) := hg5 0 _ rfl
      have c1 : w5.cell? ⟨bx, ox + k * 3 + 1, none⟩ = some (.string ⟨t.toArray⟩) := hg5 1 _ rfl
      have HX5 := Lib.hid (HX.out.trans hx5)
      clear hx5 hg5
      by_cases h1 : (ck : Int) ≤ off
      · have j1 : off ≥ (TX.length : Int) := by omega
        by_cases h2 : off < (ck : Int) + (t.length : Int)
        · have HZ : Hid (z = tg) := Lib.hid (HTAE.out h1 (by omega))
          have j2 : off < (TX.length : Int) + (t.length : Int) := by omega
          go_wp2
          go_ret
          exact ⟨by rw [HZ.out]; first | done | rfl, HX5.out⟩
        · have j2 : ¬ (off < (TX.length : Int) + (t.length : Int)) := by omega
          go_wp2
          go_roundw
          case rel => exact ⟨k + 1, by omega, by go_num, Lib.hid (fun j x hj hxj => by
            rcases Nat.lt_succ_iff_lt_or_eq.1 hj with hj | rfl
            · exact HJ.out j x hj hxj
            · rw [HCKE.out, HCE.out]; omega), HX5.out⟩
          case measure => simp [intOf]; omega
      · have j1 : ¬ (off ≥ (TX.length : Int)) := by omega
        go_wp2
        go_roundw
        case rel => exact ⟨k + 1, by omega, by go_num, Lib.hid (fun j x hj hxj => by
          rcases Nat.lt_succ_iff_lt_or_eq.1 hj with hj | rfl
          · exact HJ.out j x hj hxj
          · rw [HCKE.out]; omega), HX5.out⟩
        case measure => simp [intOf]; omega
    · have e : k = n := by omega
      subst e
      have i1 : ¬ ((k : Int) < (k : Int)) := by omega
      have HZ : Hid (z = -1) := Lib.hid (HTN.out fun i x hx => HJ.out i x (by have := (List.getElem?_eq_some_iff.1 hx).1; have := HN.out; omega) hx)
      go_wp2
      go_ret
      exact ⟨by rw [HZ.out]; first | done | rfl, hx⟩
end Go.Proofs.YthoicieckodneaaGreatDoor.Loc
