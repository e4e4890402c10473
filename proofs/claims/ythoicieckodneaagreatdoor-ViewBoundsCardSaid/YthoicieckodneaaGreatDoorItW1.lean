/- Walks: item.parts, the document's parts; all texts; all tags; where an atom stands. -/
import Derived.Test.YthoicieckodneaaGreatDoorItP4
import Derived.Test.YthoicieckodneaaGreatDoorLKin
import Derived.Test.YthoicieckodneaaGreatDoorJBuild
import Derived.Deep.Onto
import Derived.Test.YthoicieckodneaaGreatDoorFld
namespace Go.Proofs.YthoicieckodneaaGreatDoor
open Go.RowKit
theorem Acc.base {e sz : Nat} {w0 w1 w : World} {A : Option Addr} {c n : Nat} {cs : List Value} (h : Acc e sz w1 w A c n cs) (hx : Ext w0 w1) : Acc e sz w0 w A c n cs :=
  ⟨h.own.mono hx.size, hx.trans h.ext⟩
end Go.Proofs.YthoicieckodneaaGreatDoor
namespace Go.Proofs.YthoicieckodneaaGreatDoor.Loc
open Go.RowKit Utf All Small Strs Build EncC Pat Cls Dec Go.Proofs.YthoicieckodneaaGreatDoor.Sys
set_option linter.unusedVariables false
set_option linter.unusedSimpArgs false

theorem ei_it : EI 38 42 3 32 := ei_of (z := .agg #[.int .i64 0, .string ⟨#[]⟩, .int .i64 0]) Tryz.underlying38 (by kernel_rfl) rfl (by decide)
theorem ei_ri : EI 48 103 3 32 := ei_of (z := .agg #[.int .i64 0, .string ⟨#[]⟩, .int .i64 0]) Tryz.underlying48 (by kernel_rfl) rfl (by decide)
theorem infoIt : (Tryz.prog.info? 42).map (·.size) = some 3 := by kernel_rfl
theorem row_prt {w : World} {X : Option Addr} {l : List Prt} {k : Nat} (h : Row w X (prtV l)) (hk : k < l.length) :
    ∃ b off, X = some ⟨b, off, none⟩ ∧ w.rangeAt b (off + k * 2) [.bool l[k].1, .string ⟨l[k].2.toArray⟩] := by
  obtain ⟨b, off, rfl, hc⟩ := h.at_ (k := k * 2) (by rw [prt_len]; omega)
  refine ⟨b, off, rfl, fun j v hv => ?_⟩
  have hj : j < 2 := (List.getElem?_eq_some_iff.1 hv).1
  rw [Nat.add_assoc]
  refine hc _ _ ?_
  have h1 := flat_at prV 2 (fun _ => rfl) l k hk j hj
  unfold prtV
  rw [h1]; exact hv
theorem row_it {w : World} {X : Option Addr} {l : List It} {k : Nat} (h : Row w X (itsV l)) (hk : k < l.length) :
    ∃ b off, X = some ⟨b, off, none⟩ ∧ w.rangeAt b (off + k * 3) [.int .i64 l[k].1, .string ⟨l[k].2.1.toArray⟩, .int .i64 l[k].2.2] := by
  obtain ⟨b, off, rfl, hc⟩ := h.at_ (k := k * 3) (by rw [its_len]; omega)
  refine ⟨b, off, rfl, fun j v hv => ?_⟩
  have hj : j < 3 := (List.getElem?_eq_some_iff.1 hv).1
  rw [Nat.add_assoc]
  refine hc _ _ ?_
  have h1 := flat_at itV 3 (fun _ => rfl) l k hk j hj
  unfold itsV
  rw [h1]; exact hv
theorem row_ints {w : World} {X : Option Addr} {xs : List Int} {k : Nat} (h : Row w X (xs.map (Value.int .i64))) (hk : k < xs.length) : ∃ b off, X = some ⟨b, off, none⟩ ∧ w.cell? ⟨b, off + k, none⟩ = some (.int .i64 (xs.getD k 0)) := by
  obtain ⟨b, off, rfl, hc⟩ := h.at_ (k := k) (by simpa using hk)
  refine ⟨b, off, rfl, hc k _ ?_⟩
  rw [List.getElem?_map, List.getElem?_eq_getElem hk, List.getD_eq_getElem?_getD, List.getElem?_eq_getElem hk]; rfl
theorem row_cell {w : World} {b off : Nat} {xs : List Int} {k : Nat} (h : Row w (some ⟨b, off, none⟩) (xs.map (Value.int .i64))) (hk : k < xs.length) : w.cell? ⟨b, off + k, none⟩ = some (.int .i64 (xs.getD k 0)) :=
  h.cell0 (by rw [List.getElem?_map, List.getElem?_eq_getElem hk, List.getD_eq_getElem?_getD, List.getElem?_eq_getElem hk]; rfl)
theorem its_oneCell (l : List It) : ∀ u ∈ itsV l, u.oneCell' = true := by
  intro u hu
  unfold itsV at hu
  obtain ⟨p, _, hp⟩ := List.mem_flatMap.1 hu
  simp [itV] at hp
  rcases hp with rfl | rfl | rfl <;> rfl
theorem prts_snoc (r : Rec) {l : List Prt} {k : Nat} (h : k < l.length) : itsV ((l.take (k + 1)).map (prtI r)) = itsV ((l.take k).map (prtI r)) ++ itV (prtI r l[k]) := by
  rw [List.take_succ_eq_append_getElem h, List.map_append, its_app]; simp [itsV]
set_option maxHeartbeats 4000000 in
set_option maxRecDepth 100000 in
theorem item_parts (g : Nat) (A B C D X : Option Addr) (c d a b n k0 : Nat) (ps : List Prt) (l : Loc) (w : World) (h : LocR w g A B C D c d a b l) (hX : Row w X (prtV ps)) (hn : ps.length = n) (hl : n ≤ 2000) :
    Calls Tryz.prog 52 #[.pointer (some ⟨g, 0, none⟩), .slice X n k0] w fun e w' => ∃ E c', e = .returned (.slice E n c') ∧ Acc 42 3 w w' E c' n (itsV (ps.map (prtI l.r))) := by
  have HXR := Lib.hid hX
  have HN := Lib.hid hn
  have HRC : Hid (∀ W, Ext w W → Calls Tryz.prog 55 #[.pointer (some ⟨g, 0, none⟩)] W fun e w' => e = .returned (.agg ([.string ⟨l.r.name.toArray⟩, .string ⟨l.r.pattern.toArray⟩, .string ⟨l.r.system.toArray⟩, .string ⟨l.r.decimal.toArray⟩, .string ⟨l.r.group.toArray⟩, .string ⟨l.r.minus.toArray⟩, .string ⟨l.r.percent.toArray⟩, .string ⟨l.r.currency.toArray⟩] : List Value).toArray) ∧ Ext W w') := Lib.hid fun W hW => record_l g A B C D c d a b l W (h.ext hW)
  have HALL : Hid (itsV ((ps.take n).map (prtI l.r)) = itsV (ps.map (prtI l.r))) := Lib.hid (by rw [List.take_of_length_le (by omega)])
  have HSN : Hid (∀ k (hk : k < ps.length), itsV ((ps.take (k + 1)).map (prtI l.r)) = itsV ((ps.take k).map (prtI l.r)) ++ itV (prtI l.r ps[k])) := Lib.hid fun k hk => prts_snoc l.r hk
  have HMN : Hid (∀ t, itV (prtI l.r (true, t)) = [.int .i64 1, .string ⟨l.r.minus.toArray⟩, .int .i64 (-1)]) := Lib.hid fun t => rfl
  have HTX : Hid (∀ t, itV (prtI l.r (false, t)) = [.int .i64 0, .string ⟨t.toArray⟩, .int .i64 (-1)]) := Lib.hid fun t => rfl
  clear h hX hn
  go_enter Tryz.func52, Tryz.ntmps52
  go_wp2
  go_loopw [5, 10] (fun v i wr => ∃ (k : Nat) (E : Option Addr) (c' : Nat), k ≤ n ∧ i = .int .i64 k ∧ v = .slice E k c' ∧ Acc 42 3 w wr E c' k (itsV ((ps.take k).map (prtI l.r)))) (fun _ i _ => n - (intOf i).toNat)
  case atStart => exact ⟨0, none, 0, Nat.zero_le _, rfl, rfl, Acc.start _ _ _⟩
  case round =>
    obtain ⟨k, E, c', hk, rfl, rfl, hacc⟩ := hrel
    by_cases hlt : k < n
    · have hkq : k < ps.length := by have := HN.out; omega
      have HS := Lib.hid (HSN.out k hkq)
      obtain ⟨bx, ox, rfl, hg⟩ := row_prt (HXR.out.below hacc.ext (Nat.le_refl _)) hkq
      have HRG := Lib.hid hg
      have HA := Lib.hid hacc
      generalize itsV ((ps.take k).map (prtI l.r)) = out at *
      generalize ps[k] = x at *
      obtain ⟨sg, t⟩ := x
      have hbx := Box.new wr 141 [.bool sg, .string ⟨t.toArray⟩]
      have HA7 := Lib.hid (HA.out.alloc (.cells ([.bool sg, .string ⟨t.toArray⟩] : List Value).toArray 141))
      clear hacc hg HA
      go_upto_region 5 with (first
        | (refine wpList_load_mid rfl 141 (.tmp 12) rfl bx (ox + k * 2) rfl [.bool sg, .string ⟨t.toArray⟩] _ HRG.out Tryz.underlying141 rfl infoPrt ?_)
        | (refine wpList_store_fresh rfl 141 (.tmp 7) (.tmp 13) rfl ([.bool sg, .string ⟨t.toArray⟩] : List Value).toArray 141 _ rfl rfl infoPrt rfl (by simp [Value.oneCell']) ?_))
      generalize wr.alloc (.cells ([.bool sg, .string ⟨t.toArray⟩] : List Value).toArray 141) = w7 at *
      have c0 := hbx.cell (j := 0) (v := .bool sg) rfl
      have c1 := hbx.cell (j := 1) (v := .string ⟨t.toArray⟩) rfl
      cases sg
      · have HS2 : Hid (itsV ((ps.take (k + 1)).map (prtI l.r)) = out ++ [.int .i64 0, .string ⟨t.toArray⟩, .int .i64 (-1)]) := Lib.hid (by rw [HS.out, HTX.out])
        go_wp2_with (at_builtin; refine wp_app ei_it rfl (.tmp 23) (.tmp 27) rfl w _ E c' k _ rfl HA7.out [.int .i64 0, .string ⟨t.toArray⟩, .int .i64 (-1)] 1 1 rfl rfl (by simp [Value.oneCell']) (by omega) (by unfold maxLen; omega) ?_; intro A1 c1 w5 hA5 _ _)
        exact ⟨⟨k + 1, A1, c1, by omega, by go_num, rfl, by rw [HS2.out]; exact hA5⟩, by simp [intOf]; omega⟩
      · have HS2 : Hid (itsV ((ps.take (k + 1)).map (prtI l.r)) = out ++ [.int .i64 1, .string ⟨l.r.minus.toArray⟩, .int .i64 (-1)]) := Lib.hid (by rw [HS.out, HMN.out])
        have hxw := HA7.out.ext
        go_wp2_with (first
          | (go_at_call 55; with_reducible refine (HRC.out _ hxw).mono ?_; rintro e w8 ⟨rfl, hx8⟩; have HA8 := Lib.hid (HA7.out.step hx8))
          | (rw [run_field5]; simp only [Result.andThen]; rw [Oper.upon_value])
          | (at_builtin; refine wp_app ei_it rfl (.tmp 16) (.tmp 21) rfl w _ E c' k _ rfl HA8.out [.int .i64 1, .string ⟨l.r.minus.toArray⟩, .int .i64 (-1)] 1 1 rfl rfl (by simp [Value.oneCell']) (by omega) (by unfold maxLen; omega) ?_; intro A1 c1 w5 hA5 _ _))
        exact ⟨⟨k + 1, A1, c1, by omega, by go_num, rfl, by rw [HS2.out]; exact hA5⟩, by simp [intOf]; omega⟩
    · have e : k = n := by omega
      subst e
      rw [HALL.out] at hacc
      go_wp2
      go_ret
      exact ⟨E, c', rfl, hacc⟩
set_option maxHeartbeats 4000000 in
set_option maxRecDepth 100000 in
theorem ref15_parts (A B C D X : Option Addr) (c d a b n k0 : Nat) (ps : List Prt) (r : Rec) (p : Pt) (w : World) (hX : Row w X (prtV ps)) (hn : ps.length = n) (hl : n ≤ 2000) :
    Calls Tryz.prog 60 #[.agg (refLV A B C D c d a b r p).toArray, .slice X n k0] w fun e w' => ∃ E c', e = .returned (.slice E n c') ∧ Acc 103 3 w w' E c' n (itsV (ps.map (prtI r))) := by
  have HXR := Lib.hid hX
  have HN := Lib.hid hn
  have HALL : Hid (itsV ((ps.take n).map (prtI r)) = itsV (ps.map (prtI r))) := Lib.hid (by rw [List.take_of_length_le (by omega)])
  have HSN : Hid (∀ k (hk : k < ps.length), itsV ((ps.take (k + 1)).map (prtI r)) = itsV ((ps.take k).map (prtI r)) ++ itV (prtI r ps[k])) := Lib.hid fun k hk => prts_snoc r hk
  have HMN : Hid (∀ t, itV (prtI r (true, t)) = [.int .i64 1, .string ⟨r.minus.toArray⟩, .int .i64 (-1)]) := Lib.hid fun t => rfl
  have HTX : Hid (∀ t, itV (prtI r (false, t)) = [.int .i64 0, .string ⟨t.toArray⟩, .int .i64 (-1)]) := Lib.hid fun t => rfl
  have b1 := Box.new w 34 (refLV A B C D c d a b r p)
  have hx1 : Ext w (w.alloc (.cells (refLV A B C D c d a b r p).toArray 34)) := Ext.alloc_ (Ext.refl w) _
  have K5 := Lib.hid (b1.cell (j := 5) (v := .string ⟨r.minus.toArray⟩) rfl)
  have HX1 := Lib.hid hx1
  clear hX hn b1 hx1
  go_enter Tryz.func60, Tryz.ntmps60
  go_upto_region 1 with fail
  change Code.wp _ _ _ _ (w.alloc (.cells (refLV A B C D c d a b r p).toArray 34))
  generalize w.alloc (.cells (refLV A B C D c d a b r p).toArray 34) = w1 at *
  generalize hlb : w.heap.size = lb at *
  have HLB := Lib.hid hlb
  clear hlb
  go_wp2
  go_loopw [5, 6] (fun v i wr => ∃ (k : Nat) (E : Option Addr) (c' : Nat), k ≤ n ∧ i = .int .i64 k ∧ v = .slice E k c' ∧ Acc 103 3 w1 wr E c' k (itsV ((ps.take k).map (prtI r)))) (fun _ i _ => n - (intOf i).toNat)
  case atStart => exact ⟨0, none, 0, Nat.zero_le _, rfl, rfl, Acc.start _ _ _⟩
  case round =>
    obtain ⟨k, E, c', hk, rfl, rfl, hacc⟩ := hrel
    by_cases hlt : k < n
    · have hkq : k < ps.length := by have := HN.out; omega
      have HS := Lib.hid (HSN.out k hkq)
      obtain ⟨bx, ox, rfl, hg⟩ := row_prt (HXR.out.below (HX1.out.trans hacc.ext) (Nat.le_refl _)) hkq
      have HA := Lib.hid hacc
      have k5 := Ext.cell_ hacc.ext K5.out
      generalize itsV ((ps.take k).map (prtI r)) = out at *
      generalize ps[k] = x at *
      obtain ⟨sg, t⟩ := x
      have c0 : wr.cell? ⟨bx, ox + k * 2, none⟩ = some (.bool sg) := hg 0 _ rfl
      have c1 : wr.cell? ⟨bx, ox + k * 2 + 1, none⟩ = some (.string ⟨t.toArray⟩) := hg 1 _ rfl
      have i1 : (k : Int) < (n : Int) := by omega
      clear hacc hg
      cases sg
      · have HS2 : Hid (itsV ((ps.take (k + 1)).map (prtI r)) = out ++ [.int .i64 0, .string ⟨t.toArray⟩, .int .i64 (-1)]) := Lib.hid (by rw [HS.out, HTX.out])
        go_wp2_with (at_builtin; refine wp_app ei_ri rfl (.tmp 25) (.tmp 32) rfl w1 _ E c' k _ rfl HA.out [.int .i64 0, .string ⟨t.toArray⟩, .int .i64 (-1)] 1 1 rfl rfl (by simp [Value.oneCell']) (by omega) (by unfold maxLen; omega) ?_; intro A1 c1 w5 hA5 _ _)
        exact ⟨⟨k + 1, A1, c1, by omega, by go_num, rfl, by rw [HS2.out]; exact hA5⟩, by simp [intOf]; omega⟩
      · have HS2 : Hid (itsV ((ps.take (k + 1)).map (prtI r)) = out ++ [.int .i64 1, .string ⟨r.minus.toArray⟩, .int .i64 (-1)]) := Lib.hid (by rw [HS.out, HMN.out])
        go_wp2_with (at_builtin; refine wp_app ei_ri rfl (.tmp 18) (.tmp 23) rfl w1 _ E c' k _ rfl HA.out [.int .i64 1, .string ⟨r.minus.toArray⟩, .int .i64 (-1)] 1 1 rfl rfl (by simp [Value.oneCell']) (by omega) (by unfold maxLen; omega) ?_; intro A1 c1 w5 hA5 _ _)
        exact ⟨⟨k + 1, A1, c1, by omega, by go_num, rfl, by rw [HS2.out]; exact hA5⟩, by simp [intOf]; omega⟩
    · have e : k = n := by omega
      subst e
      rw [HALL.out] at hacc
      have i1 : ¬ ((k : Int) < (k : Int)) := by omega
      go_wp2
      go_ret
      exact ⟨E, c', rfl, hacc.base HX1.out⟩
end Go.Proofs.YthoicieckodneaaGreatDoor.Loc
