/- The law StrictShows: what is read is shown so again. (Printed by wip/gen/law17.py.) -/
import Derived.Test.YtaobgbhgckndkaaGreatDoorJStX
import Derived.Test.YtaobgbhgckndkaaGreatDoorJPat4
namespace Go.Proofs.YtaobgbhgckndkaaGreatDoor.Loc
open Go.RowKit Utf All Small Strs Build EncC Pat Cls Dec Go.Proofs.YtaobgbhgckndkaaGreatDoor.Sys
set_option linter.unusedVariables false
set_option linter.unusedSimpArgs false
theorem skipS_ {P : Program} {l : List Oper} {Q : Exit → Act → World → Prop} {md : Region.Mode} {S : World → Prop} {oi : Oper} {fuel : Nat} {listed : Array Bool} {a : Act} {w : World}
    (i : Nat) (hi : l[i]? = some oi) (hs : Region.noSelect l.toArray = true) (hf : Region.free md l.toArray listed i = true) (hr : (Region.ready md l.toArray listed).contains i = true)
    (hQ : ∀ c a w, Q (.panic c) (a.put oi.dst undef) w → Q (.panic c) a w) (hS : S w) (hw : Region.wanted oi (yielded l.toArray a.tmps) = false)
    (h : wpAnyH P md l.toArray Q S fuel (listed.setIfInBounds i true) (a.put oi.dst undef) w) : wpAnyH P md l.toArray Q S (fuel + 1) listed a w :=
  wpAnyH_take (i := i) (by rw [List.getElem?_toArray]; exact hi) hs hf hr hQ (Or.inr ⟨hw, rfl⟩) hS h
def bareI (L : List It) : List UInt8 := textI (L.filter fun x => x.1 != 3)
theorem bare_snoc {L : List It} {k : Nat} (h : k < L.length) : bareI (L.take (k + 1)) = bareI (L.take k) ++ (if L[k].1 = 3 then [] else L[k].2.1) := by
  unfold bareI
  rw [List.take_succ_eq_append_getElem h, List.filter_append, textI_app]
  congr 1
  rw [List.filter_cons]
  by_cases h3 : L[k].1 = 3
  · rw [if_pos h3, if_neg (by simp [h3])]; rfl
  · rw [if_neg h3, if_pos (by simpa using h3)]
    simp [textI]
theorem bare_len (L : List It) : (bareI L).length ≤ (textI L).length := by
  induction L with
  | nil => exact Nat.le_refl _
  | cons x r ih =>
    have e : textI (x :: r) = x.2.1 ++ textI r := rfl
    unfold bareI at ih ⊢
    rw [e, List.filter_cons, List.length_append]
    split
    · have e2 : textI (x :: r.filter fun x => x.1 != 3) = x.2.1 ++ textI (r.filter fun x => x.1 != 3) := rfl
      rw [e2, List.length_append]; omega
    · omega
theorem bare_le {L : List It} (h : (textI L).length ≤ 4000) (k : Nat) : (bareI (L.take k)).length ≤ 4000 := by
  refine Nat.le_trans (bare_len _) (Nat.le_trans ?_ h)
  conv => rhs; rw [← List.take_append_drop k L]
  rw [textI_app, List.length_append]
  exact Nat.le_add_right _ _
theorem box_of {w W : World} (h : Ext w W) (T : TypeId) (xs : List Value) : Box (W.alloc (.cells xs.toArray T)) W.heap.size T xs ∧ Ext W (W.alloc (.cells xs.toArray T)) ∧ w.heap.size ≤ W.heap.size := ⟨Box.new W T xs, Ext.alloc_ (Ext.refl _) _, h.size⟩
def three {α : Type} (a b c : α) : Nat → α
  | 0 => a
  | 1 => b
  | _ => c
set_option maxHeartbeats 16000000 in
set_option maxRecDepth 1000000 in
theorem law_StrictShows (v0 v1 v2 v3 v4 v5 n : Int) (s : List UInt8) (A0 B0 : Option Addr) (c0 e0 : Nat) (d0 : Dr) (w : World) (h0 : i64 v0) (h1 : i64 v1) (h2 : i64 v2) (h3 : i64 v3) (h4 : i64 v4) (h5 : i64 v5) (hn : i64 n) (hs : s.length ≤ maxLen) (hd : DrR w A0 B0 d0) (hi : DrI d0) (hT : Tabs w) :
    Calls Tryz.prog 9 #[.agg ([.int .i64 v0, .int .i64 v1, .int .i64 v2, .int .i64 v3, .int .i64 v4, .int .i64 v5] : List Value).toArray, .int .i64 n, .string ⟨s.toArray⟩, .agg ([.bool d0.neg, .slice A0 d0.int.length c0, .bool d0.sep, .slice B0 d0.frac.length e0] : List Value).toArray] w fun e w' => e = .returned (.bool true) ∧ Below w.heap.size w w' := by
  obtain ⟨r, p, hK, hBG⟩ := begin17_ v0 v1 v2 v3 v4 v5 n h0 h1 h2 h3 h4 h5 hn
  obtain ⟨ddx, hdokx, hdix, hdfx, hGdx, hEx⟩ : ∃ dd : Dr, DrOk dd ∧ dd.int.length ≤ 8 ∧ dd.frac.length ≤ 4 ∧ (∀ W, Ext w W → Calls Tryz.prog 20 #[.agg ([.bool d0.neg, .slice A0 d0.int.length c0, .bool d0.sep, .slice B0 d0.frac.length e0] : List Value).toArray, .int .i64 8, .int .i64 4] W fun e w' => ∃ X Y cx cy, e = .returned (.agg ([.bool dd.neg, .slice X dd.int.length cx, .bool dd.sep, .slice Y dd.frac.length cy] : List Value).toArray) ∧ DrR w' X Y dd ∧ Okc X cx ∧ Okc Y cy ∧ Ext W w') ∧ dd = goodD d0 8 4 :=
    ⟨goodD d0 8 4, good_ok _ _ _, good_intl d0 8 4, good_fracl d0 8 4, fun W hW => ref14_good A0 B0 c0 e0 d0 8 4 W (hd.ext hW) hi (by decide) (by decide), rfl⟩
  have HGDx := Lib.hid hGdx
  have HOKx := Lib.hid hdokx
  clear hGdx hdokx
  have HK := Lib.hid hK.knd
  have HBG := Lib.hid hBG
  have HTW := Lib.hid hT
  have HFW : Hid (∀ W, Calls Tryz.prog 15 #[.string ⟨s.toArray⟩, .int .i64 30] W fun e w' => e = .returned (.string ⟨(s.take 30).toArray⟩) ∧ W = w') := Lib.hid fun W => few_l s 30 W hs (by decide)
  have HLV : Hid (∀ W, Ext w W → Calls Tryz.prog 31 #[] W fun e w' => e = .returned (.bool true) ∧ Ext W w') := Lib.hid fun W hW => lives17 W (HTW.out.ext hW)
  obtain ⟨b1, b2, hx1⟩ := boxes2 w 23 43 [.int .i64 v0, .int .i64 v1, .int .i64 v2, .int .i64 v3, .int .i64 v4, .int .i64 v5] [.bool d0.neg, .slice A0 d0.int.length c0, .bool d0.sep, .slice B0 d0.frac.length e0]
  have HRG := Lib.hid b1.range
  have HBA := Lib.hid b2
  have HX1 := Lib.hid hx1
  clear hK hBG hd hi hT b1 b2 hx1 h0 h1 h2 h3 h4 h5 hn hEx hs
  go_enter Tryz.func9, Tryz.ntmps9
  go_upto_region 1 with fail
  change Code.wp _ _ _ _ ((w.alloc (.cells ([.int .i64 v0, .int .i64 v1, .int .i64 v2, .int .i64 v3, .int .i64 v4, .int .i64 v5] : List Value).toArray 23)).alloc (.cells ([.bool d0.neg, .slice A0 d0.int.length c0, .bool d0.sep, .slice B0 d0.frac.length e0] : List Value).toArray 43))
  generalize (w.alloc (.cells ([.int .i64 v0, .int .i64 v1, .int .i64 v2, .int .i64 v3, .int .i64 v4, .int .i64 v5] : List Value).toArray 23)).alloc (.cells ([.bool d0.neg, .slice A0 d0.int.length c0, .bool d0.sep, .slice B0 d0.frac.length e0] : List Value).toArray 43) = w1 at *
  go_upto_region 2 with (first
    | (refine wpList_load_mid rfl 23 (.tmp 4) rfl w.heap.size 0 rfl [.int .i64 v0, .int .i64 v1, .int .i64 v2, .int .i64 v3, .int .i64 v4, .int .i64 v5] _ HRG.out Tryz.underlying23 rfl infoG ?_)
    | (go_at_call 26; with_reducible refine (HBG.out _ (HTW.out.ext HX1.out)).mono ?_; rintro e wb ⟨g, A, B, C, D, c, d, a, b, rfl, hlw, hxb⟩)
    | (refine wpList_store_fresh rfl 31 (.tmp 10) (.tmp 26) rfl ([.string ⟨r.name.toArray⟩, .string ⟨r.pattern.toArray⟩, .string ⟨r.system.toArray⟩, .string ⟨r.decimal.toArray⟩, .string ⟨r.group.toArray⟩, .string ⟨r.minus.toArray⟩, .string ⟨r.percent.toArray⟩, .string ⟨r.currency.toArray⟩, .slice A p.pre.length c, .slice B p.suf.length d, .slice C p.npre.length a, .slice D p.nsuf.length b, .int .i64 p.num.prim, .int .i64 p.num.sec, .int .i64 p.num.minInt, .int .i64 p.num.minFrac, .int .i64 p.num.maxFrac] : List Value).toArray 31 _ rfl rfl infoRL rfl (refL_one A B C D c d a b r p) ?_))
  have hxc : Ext wb (wb.alloc (.cells ([.string ⟨r.name.toArray⟩, .string ⟨r.pattern.toArray⟩, .string ⟨r.system.toArray⟩, .string ⟨r.decimal.toArray⟩, .string ⟨r.group.toArray⟩, .string ⟨r.minus.toArray⟩, .string ⟨r.percent.toArray⟩, .string ⟨r.currency.toArray⟩, .slice A p.pre.length c, .slice B p.suf.length d, .slice C p.npre.length a, .slice D p.nsuf.length b, .int .i64 p.num.prim, .int .i64 p.num.sec, .int .i64 p.num.minInt, .int .i64 p.num.minFrac, .int .i64 p.num.maxFrac] : List Value).toArray 31)) := Ext.alloc_ (Ext.refl _) _
  have HW := Lib.hid hlw
  have HXB := Lib.hid (HX1.out.trans (hxb.trans hxc))
  have HXS := Lib.hid (hxb.trans hxc)
  clear hlw hxb hxc
  generalize wb.alloc (.cells ([.string ⟨r.name.toArray⟩, .string ⟨r.pattern.toArray⟩, .string ⟨r.system.toArray⟩, .string ⟨r.decimal.toArray⟩, .string ⟨r.group.toArray⟩, .string ⟨r.minus.toArray⟩, .string ⟨r.percent.toArray⟩, .string ⟨r.currency.toArray⟩, .slice A p.pre.length c, .slice B p.suf.length d, .slice C p.npre.length a, .slice D p.nsuf.length b, .int .i64 p.num.prim, .int .i64 p.num.sec, .int .i64 p.num.minInt, .int .i64 p.num.minFrac, .int .i64 p.num.maxFrac] : List Value).toArray 31) = w3 at *
  generalize wb.heap.size = lb at *
  have HRA := Lib.hid (HBA.out.ext HXS.out).range
  go_upto_region 5 with (first
    | (refine wpList_load_mid rfl 43 (.tmp 7) rfl (w.heap.size + 1) 0 rfl [.bool d0.neg, .slice A0 d0.int.length c0, .bool d0.sep, .slice B0 d0.frac.length e0] _ HRA.out Tryz.underlying43 rfl infoD14 ?_)
    | (go_at_call 20; with_reducible refine (HGDx.out _ HXB.out).mono ?_; rintro e wg ⟨Xx, Yx, cxx, cyx, rfl, hdr, oX, oY, hxg⟩)
    | (refine wpList_store_fresh rfl 43 (.tmp 11) (.tmp 30) rfl ([.bool ddx.neg, .slice Xx ddx.int.length cxx, .bool ddx.sep, .slice Yx ddx.frac.length cyx] : List Value).toArray 43 _ rfl rfl infoD14 rfl (by simp [Value.oneCell']) ?_))
  have HDx := Lib.hid (Dw.new (T := 43) hdr oX oY)
  have HYx := Lib.hid (hxg.trans (Ext.alloc_ (Ext.refl wg) (.cells ([.bool ddx.neg, .slice Xx ddx.int.length cxx, .bool ddx.sep, .slice Yx ddx.frac.length cyx] : List Value).toArray 43)))
  clear hdr oX oY hxg
  change Hid (Dw (wg.alloc (.cells ([.bool ddx.neg, .slice Xx ddx.int.length cxx, .bool ddx.sep, .slice Yx ddx.frac.length cyx] : List Value).toArray 43)) wg.heap.size 43 Xx cxx Yx cyx ddx) at HDx
  generalize wg.alloc (.cells ([.bool ddx.neg, .slice Xx ddx.int.length cxx, .bool ddx.sep, .slice Yx ddx.frac.length cyx] : List Value).toArray 43) = w5 at *
  generalize wg.heap.size = dbx at *
  have HX5 := Lib.hid (HXB.out.trans HYx.out)
  have HW5 := Lib.hid (HW.out.ext HYx.out)
  have HIT : Hid (∀ W, Ext w5 W → Calls Tryz.prog 37 #[.agg ([.string ⟨r.name.toArray⟩, .string ⟨r.pattern.toArray⟩, .string ⟨r.system.toArray⟩, .string ⟨r.decimal.toArray⟩, .string ⟨r.group.toArray⟩, .string ⟨r.minus.toArray⟩, .string ⟨r.percent.toArray⟩, .string ⟨r.currency.toArray⟩, .slice A p.pre.length c, .slice B p.suf.length d, .slice C p.npre.length a, .slice D p.nsuf.length b, .int .i64 p.num.prim, .int .i64 p.num.sec, .int .i64 p.num.minInt, .int .i64 p.num.minFrac, .int .i64 p.num.maxFrac] : List Value).toArray, .agg ([.bool ddx.neg, .slice Xx ddx.int.length cxx, .bool ddx.sep, .slice Yx ddx.frac.length cyx] : List Value).toArray] W fun e w' => ∃ E c', e = .returned (.slice E (itemsF (locOf r p) ddx).length c') ∧ Row w' E (itsV (itemsF (locOf r p) ddx)) ∧ Ext W w') := Lib.hid fun W hW =>
    (ref15_items5 A B C D Xx Yx c d a b cxx cyx ddx r p W HK.out.both HK.out.num (HW5.out.pt.ext hW) HW5.out.cap (HDx.out.dr.ext hW) HDx.out.ox HDx.out.oy HOKx.out (by omega) (by omega)).mono fun e w' ⟨E, c', h1, h2⟩ => ⟨E, c', h1, h2.row, h2.ext⟩
  have hsm := text_small HK.out.both ddx
  have hil := items_le HK.out.both (d := ddx) (by omega) (by omega)
  have HLR5 := Lib.hid HW5.out.range
  have HDR5 := Lib.hid HDx.out.box.range
  clear HW HXB HXS HBA HRG HRA HGDx HBG HX1
  have htl : (textI (itemsF (locOf r p) ddx)).length ≤ 4000 := by omega
  have HBL := Lib.hid (bare_le htl)
  have HTL := Lib.hid htl
  have HIL := Lib.hid hil
  clear hsm htl hil
  generalize itemsF (locOf r p) ddx = L at *
  go_upto_region 6 with (first
    | (refine wpList_load_mid rfl 31 (.tmp 10) rfl lb 0 rfl [.string ⟨r.name.toArray⟩, .string ⟨r.pattern.toArray⟩, .string ⟨r.system.toArray⟩, .string ⟨r.decimal.toArray⟩, .string ⟨r.group.toArray⟩, .string ⟨r.minus.toArray⟩, .string ⟨r.percent.toArray⟩, .string ⟨r.currency.toArray⟩, .slice A p.pre.length c, .slice B p.suf.length d, .slice C p.npre.length a, .slice D p.nsuf.length b, .int .i64 p.num.prim, .int .i64 p.num.sec, .int .i64 p.num.minInt, .int .i64 p.num.minFrac, .int .i64 p.num.maxFrac] _ HLR5.out Tryz.underlying31 rfl infoRL ?_)
    | (refine wpList_load_mid rfl 43 (.tmp 11) rfl dbx 0 rfl [.bool ddx.neg, .slice Xx ddx.int.length cxx, .bool ddx.sep, .slice Yx ddx.frac.length cyx] _ HDR5.out Tryz.underlying43 rfl infoD14 ?_)
    | (go_at_call 37; with_reducible refine (HIT.out _ (Ext.refl _)).mono ?_; rintro e w6 ⟨E, cE, rfl, hrE, hx6⟩))
  have HRE := Lib.hid hrE
  have HX6 := Lib.hid hx6
  have HTX : Hid (∀ W, Ext w6 W → Calls Tryz.prog 38 #[.slice E L.length cE] W fun e w' => e = .returned (.string ⟨(textI L).toArray⟩) ∧ Ext W w') := Lib.hid fun W hW => ref15_text E L.length cE L W (HRE.out.below hW (Nat.le_refl _)) rfl (by have := HIL.out.1; omega) HIL.out.2.1
  have hNl : L.length ≤ 2400 := HIL.out.1
  generalize hN : L.length = N at *
  have HN := Lib.hid hN
  clear hN hrE hx6 HIT
  go_wp2
  go_loop [13, 14] (fun q i => ∃ k : Nat, k ≤ N ∧ i = .int .i64 k ∧ q = .string ⟨(bareI (L.take k)).toArray⟩) (fun _ i => N - (intOf i).toNat)
  case atStart => exact ⟨0, Nat.zero_le _, rfl, rfl⟩
  case round =>
    obtain ⟨k, hk, rfl, rfl⟩ := hrel
    by_cases hlt : k < N
    · have hkl : k < L.length := by have := HN.out; omega
      obtain ⟨bx, ox, rfl, hg⟩ := row_it HRE.out hkl
      have HS := Lib.hid (bare_snoc hkl)
      have hle := HBL.out k
      have htx := HIL.out.2.1 _ (List.getElem_mem hkl)
      generalize L[k] = x at *
      obtain ⟨tg, t, at_⟩ := x
      simp only at htx
      have q0 : w6.cell? ⟨bx, ox + k * 3, none⟩ = some (.int .i64 tg) := hg 0 _ rfl
      have q1 : w6.cell? ⟨bx, ox + k * 3 + 1, none⟩ = some (.string ⟨t.toArray⟩) := hg 1 _ rfl
      have i1 : (k : Int) < (N : Int) := by omega
      have i2 : (0 : Int) ≤ (k : Int) := by omega
      generalize bareI (L.take k) = o at *
      clear hg
      by_cases h3 : tg = 3
      · have HS2 : Hid (bareI (L.take (k + 1)) = o) := Lib.hid (by rw [HS.out, if_pos h3, List.append_nil])
        have j1 : (tg != 3) = false := by simpa using h3
        clear h3 HS
        go_wp2
        go_round
        case rel => exact ⟨k + 1, by omega, by go_num, by rw [HS2.out]⟩
        case measure => simp [intOf]; omega
      · have HS2 : Hid (bareI (L.take (k + 1)) = o ++ t) := Lib.hid (by rw [HS.out, if_neg h3])
        have j1 : (tg != 3) = true := by simpa using h3
        have hap := app_mk o t
        have j2 : (9223372036854775807 < o.length + t.length) = False := eq_false (by omega)
        clear h3 HS
        go_wp2
        go_round
        case rel => exact ⟨k + 1, by omega, by go_num, by rw [HS2.out]; first | done | rfl | rw [hap]⟩
        case measure => simp [intOf]; omega
    · have e : k = N := by omega
      subst e
      have i1 : ¬ ((k : Int) < (k : Int)) := by omega
      have hle := HBL.out k
      generalize bareI (L.take k) = ba at *
      have hts := HTL.out
      generalize textI L = tx at *
      have hfs : (s.take 30).length ≤ 30 := by rw [List.length_take]; omega
      generalize s.take 30 = fs at *
      go_upto_region 13 with (first
        | (go_at_call 15; with_reducible refine (HFW.out _).mono ?_; rintro e wz ⟨rfl, rfl⟩)
        | (go_at_call 38; with_reducible refine (HTX.out _ (Ext.refl _)).mono ?_; rintro e w7 ⟨rfl, hx7⟩))
      change Code.wp _ _ _ _ (w7.alloc (.cells ([.string ⟨fs.toArray⟩, .string ⟨ba.toArray⟩, .string ⟨tx.toArray⟩] : List Value).toArray 9))
      have hrs : Row (w7.alloc (.cells ([.string ⟨fs.toArray⟩, .string ⟨ba.toArray⟩, .string ⟨tx.toArray⟩] : List Value).toArray 9)) (some ⟨w7.heap.size, 0, none⟩) [.string ⟨fs.toArray⟩, .string ⟨ba.toArray⟩, .string ⟨tx.toArray⟩] := row_new w7 _ _
      have HCS : Hid (∀ i, i < 3 → (w7.alloc (.cells ([.string ⟨fs.toArray⟩, .string ⟨ba.toArray⟩, .string ⟨tx.toArray⟩] : List Value).toArray 9)).cell? ⟨w7.heap.size, i, none⟩ = some (.string ⟨(three fs ba tx i).toArray⟩)) := Lib.hid fun i hi => by
        have : i = 0 ∨ i = 1 ∨ i = 2 := by omega
        rcases this with rfl | rfl | rfl
        · exact hrs.cell00 rfl
        · exact hrs.cell00 rfl
        · exact hrs.cell00 rfl
      have HSL : Hid (∀ i, i < 3 → (three fs ba tx i).length ≤ 5000) := Lib.hid fun i hi => by
        have : i = 0 ∨ i = 1 ∨ i = 2 := by omega
        rcases this with rfl | rfl | rfl
        · exact Nat.le_trans hfs (by decide)
        · exact Nat.le_trans hle (by decide)
        · exact Nat.le_trans hts (by decide)
      have hx8 : Ext w5 (w7.alloc (.cells ([.string ⟨fs.toArray⟩, .string ⟨ba.toArray⟩, .string ⟨tx.toArray⟩] : List Value).toArray 9)) := HX6.out.trans (hx7.trans (Ext.alloc_ (Ext.refl _) _))
      have HW8 := Lib.hid (HW5.out.ext hx8)
      have HX8 := Lib.hid (HX5.out.trans hx8)
      clear hrs hx7 hx8 hle hts hfs HTX HBL HTL HFW HX6 HX5 HW5 HLR5 HDR5 HDx HRE HIL
      generalize w7.alloc (.cells ([.string ⟨fs.toArray⟩, .string ⟨ba.toArray⟩, .string ⟨tx.toArray⟩] : List Value).toArray 9) = w8 at *
      generalize w7.heap.size = sb at *
      generalize three fs ba tx = SS at *
      go_wp2
      go_loopw [16] (fun i wr => ∃ m : Nat, m ≤ 3 ∧ i = .int .i64 m ∧ Ext w8 wr) (fun i _ => 3 - (intOf i).toNat)
      case atStart => exact ⟨0, Nat.zero_le _, rfl, Ext.refl _⟩
      case round =>
        obtain ⟨m, hm, rfl, hx⟩ := hrel
        by_cases hlm : m < 3
        · have k1 : (m : Int) < 3 := by omega
          have k2 : (0 : Int) ≤ (m : Int) := by omega
          have hsl := HSL.out m hlm
          have hcs := HCS.out m hlm
          have hc9 := Ext.cell_ hx hcs
          have HCM := Lib.hid hcs
          have HPA : Hid (∀ W, Ext w8 W → Calls Tryz.prog 27 #[.pointer (some ⟨g, 0, none⟩), .string ⟨(SS m).toArray⟩] W fun e w' => ∃ X Y cx cy, e = .returned (.tuple #[.agg ([.bool (rdD (locOf r p) (SS m)).neg, .slice X (rdD (locOf r p) (SS m)).int.length cx, .bool (rdD (locOf r p) (SS m)).sep, .slice Y (rdD (locOf r p) (SS m)).frac.length cy] : List Value).toArray, .int .i64 (rdE (locOf r p) (SS m))]) ∧ DrR w' X Y (rdD (locOf r p) (SS m)) ∧ Okc X cx ∧ Okc Y cy ∧ Ext W w') := Lib.hid fun W hW => (HW8.out.ext hW).parse HK.out hsl
          have HPB : Hid (∀ W, Ext w8 W → Calls Tryz.prog 28 #[.agg ([.string ⟨r.name.toArray⟩, .string ⟨r.pattern.toArray⟩, .string ⟨r.system.toArray⟩, .string ⟨r.decimal.toArray⟩, .string ⟨r.group.toArray⟩, .string ⟨r.minus.toArray⟩, .string ⟨r.percent.toArray⟩, .string ⟨r.currency.toArray⟩, .slice A p.pre.length c, .slice B p.suf.length d, .slice C p.npre.length a, .slice D p.nsuf.length b, .int .i64 p.num.prim, .int .i64 p.num.sec, .int .i64 p.num.minInt, .int .i64 p.num.minFrac, .int .i64 p.num.maxFrac] : List Value).toArray, .string ⟨(SS m).toArray⟩] W fun e w' => ∃ X Y cx cy, e = .returned (.tuple #[.agg ([.bool (rdD (locOf r p) (SS m)).neg, .slice X (rdD (locOf r p) (SS m)).int.length cx, .bool (rdD (locOf r p) (SS m)).sep, .slice Y (rdD (locOf r p) (SS m)).frac.length cy] : List Value).toArray, .int .i64 (rdE (locOf r p) (SS m))]) ∧ Ext W w') := Lib.hid fun W hW => ((HW8.out.ext hW).rparse HK.out hsl).mono fun e w' ⟨X, Y, cx, cy, h1, _, _, _, h2⟩ => ⟨X, Y, cx, cy, h1, h2⟩
          have hrs := rd_small HK.out.both hsl
          have HIX : Hid (∀ W X Y cx cy, Ext w8 W → DrR W X Y (rdD (locOf r p) (SS m)) → Calls Tryz.prog 40 #[.pointer (some ⟨g, 0, none⟩), .agg ([.bool (rdD (locOf r p) (SS m)).neg, .slice X (rdD (locOf r p) (SS m)).int.length cx, .bool (rdD (locOf r p) (SS m)).sep, .slice Y (rdD (locOf r p) (SS m)).frac.length cy] : List Value).toArray] W fun e w' => ∃ E cE, e = .returned (.slice E (itemsF (locOf r p) (rdD (locOf r p) (SS m))).length cE) ∧ Row w' E (itsV (itemsF (locOf r p) (rdD (locOf r p) (SS m)))) ∧ Ext W w') := Lib.hid fun W X Y cx cy hW hd => (HW8.out.ext hW).itm HK.out hd hrs.1 hrs.2
          have hi5 := items_le5 HK.out.both (d := rdD (locOf r p) (SS m)) hrs.1 hrs.2
          have HTT : Hid (∀ W E cE, rdE (locOf r p) (SS m) = 0 → Row W E (itsV (itemsF (locOf r p) (rdD (locOf r p) (SS m)))) → Calls Tryz.prog 39 #[.slice E (itemsF (locOf r p) (rdD (locOf r p) (SS m))).length cE] W fun e w' => e = .returned (.string ⟨(SS m).toArray⟩) ∧ Ext W w') := Lib.hid fun W E cE h0 hr => by
            have hh := item_text5 E _ cE (itemsF (locOf r p) (rdD (locOf r p) (SS m))) W hr rfl (by omega) hi5.2.1
            rwa [rd_text HK.out.both h0] at hh
          have HXM := Lib.hid hx
          clear hsl hcs hrs hi5 hx
          generalize itemsF (locOf r p) (rdD (locOf r p) (SS m)) = Lx at *
          generalize rdE (locOf r p) (SS m) = re at *
          generalize rdD (locOf r p) (SS m) = rd at *
          generalize SS m = sm at *
          go_upto_region 17 with (first
            | (go_at_call 27; with_reducible refine (HPA.out _ HXM.out).mono ?_; rintro e w9 ⟨X, Y, cx, cy, rfl, hdr, oX, oY, hx9⟩)
            | (refine wpList_store_fresh rfl 58 (.tmp 17) (.tmp 70) rfl ([.bool rd.neg, .slice X rd.int.length cx, .bool rd.sep, .slice Y rd.frac.length cy] : List Value).toArray 58 _ rfl rfl infoD rfl (by simp [Value.oneCell']) ?_))
          have hb10 := Box.new w9 58 [.bool rd.neg, .slice X rd.int.length cx, .bool rd.sep, .slice Y rd.frac.length cy]
          have hx10 : Ext w9 (w9.alloc (.cells ([.bool rd.neg, .slice X rd.int.length cx, .bool rd.sep, .slice Y rd.frac.length cy] : List Value).toArray 58)) := Ext.alloc_ (Ext.refl _) _
          have HX10 := Lib.hid (HXM.out.trans (hx9.trans hx10))
          have HD10 := Lib.hid (hdr.ext hx10)
          have HR10 := Lib.hid hb10.range
          clear hdr oX oY hx9 hx10 hb10 HPA HXM hc9
          generalize w9.alloc (.cells ([.bool rd.neg, .slice X rd.int.length cx, .bool rd.sep, .slice Y rd.frac.length cy] : List Value).toArray 58) = w10 at *
          generalize w9.heap.size = xb at *
          have hc10 := Ext.cell_ HX10.out HCM.out
          have HC10 := Lib.hid hc10
          by_cases h0 : re = 0
          · have j1 : (re == 0) = true := by simpa using h0
            have HTZ := Lib.hid (fun W E cE hr => HTT.out W E cE h0 hr)
            clear h0 HTT hc10
            refine wp_region_noPanic ?_
            refine wp_region_held_drew (S := fun W => Ext w10 W ∧ W.rangeAt xb 0 [.bool rd.neg, .slice X rd.int.length cx, .bool rd.sep, .slice Y rd.frac.length cy] ∧ W.cell? ⟨sb, m, none⟩ = some (.string ⟨sm.toArray⟩)) (by kernel_rfl) ?_ (fun hHeld => ?_)
            · exact ⟨Ext.drew_ (Ext.refl _), HR10.out, HC10.out⟩
            refine take_ 0 (v := ?_) rfl (by kernel_rfl) (by kernel_rfl) (by kernel_rfl) (fun _ _ _ h => h) hHeld (by rfl) ?_ ?_
            rotate_left 1
            · (intro w hSw; (try dsimp only at hSw); go_simp; all_goals with_reducible rfl)
            try simp only [Act.put, List.setIfInBounds_toArray, List.set_cons_zero, List.set_cons_succ]
            refine take_ 1 (v := ?_) rfl (by kernel_rfl) (by kernel_rfl) (by kernel_rfl) (fun _ _ _ h => h) hHeld (by rfl) ?_ ?_
            rotate_left 1
            · (intro w hSw; (try dsimp only at hSw); go_simp; all_goals with_reducible rfl)
            try simp only [Act.put, List.setIfInBounds_toArray, List.set_cons_zero, List.set_cons_succ]
            refine take_ 2 (v := ?_) rfl (by kernel_rfl) (by kernel_rfl) (by kernel_rfl) (fun _ _ _ h => h) hHeld (by rfl) ?_ ?_
            rotate_left 1
            · (intro w hSw; (try dsimp only at hSw); go_simp; all_goals with_reducible rfl)
            try simp only [Act.put, List.setIfInBounds_toArray, List.set_cons_zero, List.set_cons_succ]
            refine take_ 3 (v := ?_) rfl (by kernel_rfl) (by kernel_rfl) (by kernel_rfl) (fun _ _ _ h => h) hHeld (by rfl) ?_ ?_
            rotate_left 1
            · (intro w hSw; (try dsimp only at hSw); go_simp; all_goals with_reducible rfl)
            try simp only [Act.put, List.setIfInBounds_toArray, List.set_cons_zero, List.set_cons_succ]
            refine takeRow_ (cs := [.bool rd.neg, .slice X rd.int.length cx, .bool rd.sep, .slice Y rd.frac.length cy]) 4 rfl (by kernel_rfl) (by kernel_rfl) (by kernel_rfl) (fun _ _ _ h => h) hHeld (by rfl) 58 ((.tmp 17)) rfl xb (0) rfl _ (fun _ h => h.2.1) Tryz.underlying58 rfl infoD ?_
            try simp only [Act.put, List.setIfInBounds_toArray, List.set_cons_zero, List.set_cons_succ]
            refine take_ 7 (v := ?_) rfl (by kernel_rfl) (by kernel_rfl) (by kernel_rfl) (fun _ _ _ h => h) hHeld (by rfl) ?_ ?_
            rotate_left 1
            · (intro w hSw; (try dsimp only at hSw); go_simp; all_goals with_reducible rfl)
            try simp only [Act.put, List.setIfInBounds_toArray, List.set_cons_zero, List.set_cons_succ]
            refine take_ 8 (v := ?_) rfl (by kernel_rfl) (by kernel_rfl) (by kernel_rfl) (fun _ _ _ h => h) hHeld (by rfl) ?_ ?_
            rotate_left 1
            · (intro w hSw; (try dsimp only at hSw); go_simp; all_goals with_reducible rfl)
            try simp only [Act.put, List.setIfInBounds_toArray, List.set_cons_zero, List.set_cons_succ]
            refine take_ 9 (v := ?_) rfl (by kernel_rfl) (by kernel_rfl) (by kernel_rfl) (fun _ _ _ h => h) hHeld (by rfl) ?_ ?_
            rotate_left 1
            · (intro w hSw; (try dsimp only at hSw); go_simp; all_goals with_reducible rfl)
            try simp only [Act.put, List.setIfInBounds_toArray, List.set_cons_zero, List.set_cons_succ]
            refine take_ 10 (v := ?_) rfl (by kernel_rfl) (by kernel_rfl) (by kernel_rfl) (fun _ _ _ h => h) hHeld (by rfl) ?_ ?_
            rotate_left 1
            · (intro w hSw; (try dsimp only at hSw); go_simp; all_goals with_reducible rfl)
            try simp only [Act.put, List.setIfInBounds_toArray, List.set_cons_zero, List.set_cons_succ]
            refine only_ 5 rfl (by kernel_rfl) (fun K1 hK1 => ?_)
            go_simp
            go_at_call 40
            refine (HIX.out _ X Y cx cy (HX10.out.trans hHeld.1) (HD10.out.ext hHeld.1)).mono ?_
            rintro e w11 ⟨E2, cE2, rfl, hr11, hx11⟩
            have HT11 := Lib.hid (HTZ.out _ _ cE2 hr11)
            refine hK1.out _ _ (⟨hHeld.1.trans hx11, Ext.range_ hx11 hHeld.2.1, Ext.cell_ hx11 hHeld.2.2⟩) (fun hHeld => ?_)
            clear hK1
            try simp only [Act.put, List.setIfInBounds_toArray, List.set_cons_zero, List.set_cons_succ]
            refine only_ 6 rfl (by kernel_rfl) (fun K1 hK1 => ?_)
            go_simp
            go_at_call 39
            refine HT11.out.mono ?_
            rintro e w12 ⟨rfl, hx12⟩
            refine hK1.out _ _ (⟨hHeld.1.trans hx12, Ext.range_ hx12 hHeld.2.1, Ext.cell_ hx12 hHeld.2.2⟩) (fun hHeld => ?_)
            clear hK1
            try simp only [Act.put, List.setIfInBounds_toArray, List.set_cons_zero, List.set_cons_succ]
            refine take_ 11 (v := ?_) rfl (by kernel_rfl) (by kernel_rfl) (by kernel_rfl) (fun _ _ _ h => h) hHeld (by rfl) ?_ ?_
            rotate_left 1
            · (intro w hSw; (try dsimp only at hSw); go_simp; all_goals with_reducible rfl)
            try simp only [Act.put, List.setIfInBounds_toArray, List.set_cons_zero, List.set_cons_succ]
            refine take_ 12 (v := ?_) rfl (by kernel_rfl) (by kernel_rfl) (by kernel_rfl) (fun _ _ _ h => h) hHeld (by rfl) ?_ ?_
            rotate_left 1
            · (intro w hSw; (try dsimp only at hSw); go_simp; all_goals with_reducible rfl)
            try simp only [Act.put, List.setIfInBounds_toArray, List.set_cons_zero, List.set_cons_succ]
            refine wpAnyH_done (by kernel_rfl) ?_ _
            refine NoPanic.normal ?_
            have HZ := Lib.hid hHeld.1
            clear hHeld hr11 hx11 hx12
            have HX13 := Lib.hid (HX10.out.trans HZ.out)
            have HRL13 := Lib.hid (Ext.range_ HX13.out HW8.out.range)
            have HC13 := Lib.hid (Ext.cell_ HX13.out HCM.out)
            go_upto_region 19 with fail
            refine wp_region_noPanic ?_
            refine wp_region_held_drew (S := fun W => Ext w8 W ∧ W.rangeAt lb 0 [.string ⟨r.name.toArray⟩, .string ⟨r.pattern.toArray⟩, .string ⟨r.system.toArray⟩, .string ⟨r.decimal.toArray⟩, .string ⟨r.group.toArray⟩, .string ⟨r.minus.toArray⟩, .string ⟨r.percent.toArray⟩, .string ⟨r.currency.toArray⟩, .slice A p.pre.length c, .slice B p.suf.length d, .slice C p.npre.length a, .slice D p.nsuf.length b, .int .i64 p.num.prim, .int .i64 p.num.sec, .int .i64 p.num.minInt, .int .i64 p.num.minFrac, .int .i64 p.num.maxFrac] ∧ W.cell? ⟨sb, m, none⟩ = some (.string ⟨sm.toArray⟩)) (by kernel_rfl) ?_ (fun hHeld => ?_)
            · exact ⟨HX13.out.trans (Ext.drew_ (Ext.refl _)), Ext.range_ (Ext.drew_ (Ext.refl _)) HRL13.out, Ext.cell_ (Ext.drew_ (Ext.refl _)) HC13.out⟩
            refine takeRow_ (cs := [.string ⟨r.name.toArray⟩, .string ⟨r.pattern.toArray⟩, .string ⟨r.system.toArray⟩, .string ⟨r.decimal.toArray⟩, .string ⟨r.group.toArray⟩, .string ⟨r.minus.toArray⟩, .string ⟨r.percent.toArray⟩, .string ⟨r.currency.toArray⟩, .slice A p.pre.length c, .slice B p.suf.length d, .slice C p.npre.length a, .slice D p.nsuf.length b, .int .i64 p.num.prim, .int .i64 p.num.sec, .int .i64 p.num.minInt, .int .i64 p.num.minFrac, .int .i64 p.num.maxFrac]) 0 rfl (by kernel_rfl) (by kernel_rfl) (by kernel_rfl) (fun _ _ _ h => h) hHeld (by rfl) 31 ((.tmp 10)) rfl lb (0) rfl _ (fun _ h => h.2.1) Tryz.underlying31 rfl infoRL ?_
            try simp only [Act.put, List.setIfInBounds_toArray, List.set_cons_zero, List.set_cons_succ]
            refine take_ 1 (v := ?_) rfl (by kernel_rfl) (by kernel_rfl) (by kernel_rfl) (fun _ _ _ h => h) hHeld (by rfl) ?_ ?_
            rotate_left 1
            · (intro w hSw; (try dsimp only at hSw); go_simp; all_goals with_reducible rfl)
            try simp only [Act.put, List.setIfInBounds_toArray, List.set_cons_zero, List.set_cons_succ]
            refine take_ 2 (v := ?_) rfl (by kernel_rfl) (by kernel_rfl) (by kernel_rfl) (fun _ _ _ h => h) hHeld (by rfl) ?_ ?_
            rotate_left 1
            · (intro w hSw; (try dsimp only at hSw); go_simp; all_goals with_reducible rfl)
            try simp only [Act.put, List.setIfInBounds_toArray, List.set_cons_zero, List.set_cons_succ]
            refine take_ 3 (v := ?_) rfl (by kernel_rfl) (by kernel_rfl) (by kernel_rfl) (fun _ _ _ h => h) hHeld (by rfl) ?_ ?_
            rotate_left 1
            · (intro w hSw; (try dsimp only at hSw); go_simp; all_goals with_reducible rfl)
            try simp only [Act.put, List.setIfInBounds_toArray, List.set_cons_zero, List.set_cons_succ]
            refine take_ 4 (v := ?_) rfl (by kernel_rfl) (by kernel_rfl) (by kernel_rfl) (fun _ _ _ h => h) hHeld (by rfl) ?_ ?_
            rotate_left 1
            · (intro w hSw; (try dsimp only at hSw); go_simp; all_goals with_reducible rfl)
            try simp only [Act.put, List.setIfInBounds_toArray, List.set_cons_zero, List.set_cons_succ]
            refine wpAnyH_ready (rs := [5, 9]) (by kernel_rfl) (by simp) (AllReadyH.cons rfl ?_ (AllReadyH.cons rfl ?_ AllReadyH.nil))
            · intro K1 hK1
              go_simp
              go_at_call 28
              refine (HPB.out _ hHeld.1).mono ?_
              rintro e w14 ⟨X', Y', cx', cy', rfl, hx14⟩
              refine hK1.out _ _ (⟨hHeld.1.trans hx14, Ext.range_ hx14 hHeld.2.1, Ext.cell_ hx14 hHeld.2.2⟩) (fun hHeld => ?_)
              clear hK1
              try simp only [Act.put, List.setIfInBounds_toArray, List.set_cons_zero, List.set_cons_succ]
              refine take_ 6 (v := ?_) rfl (by kernel_rfl) (by kernel_rfl) (by kernel_rfl) (fun _ _ _ h => h) hHeld (by rfl) ?_ ?_
              rotate_left 1
              · (intro w hSw; (try dsimp only at hSw); go_simp; all_goals with_reducible rfl)
              try simp only [Act.put, List.setIfInBounds_toArray, List.set_cons_zero, List.set_cons_succ]
              refine take_ 7 (v := ?_) rfl (by kernel_rfl) (by kernel_rfl) (by kernel_rfl) (fun _ _ _ h => h) hHeld (by rfl) ?_ ?_
              rotate_left 1
              · (intro w hSw; (try dsimp only at hSw); go_simp; all_goals with_reducible rfl)
              try simp only [Act.put, List.setIfInBounds_toArray, List.set_cons_zero, List.set_cons_succ]
              refine take_ 8 (v := ?_) rfl (by kernel_rfl) (by kernel_rfl) (by kernel_rfl) (fun _ _ _ h => h) hHeld (by rfl) ?_ ?_
              rotate_left 1
              · (intro w hSw; (try dsimp only at hSw); go_simp; all_goals with_reducible rfl)
              try simp only [Act.put, List.setIfInBounds_toArray, List.set_cons_zero, List.set_cons_succ]
              refine only_ 9 rfl (by kernel_rfl) (fun K1 hK1 => ?_)
              go_simp
              obtain ⟨hb15, hx15, hle15⟩ := box_of hHeld.1 43 zeroD
              have HB15 := Lib.hid hb15
              have HLE15 := Lib.hid hle15
              clear hb15 hle15
              refine hK1.out _ _ (⟨hHeld.1.trans hx15, Ext.range_ hx15 hHeld.2.1, Ext.cell_ hx15 hHeld.2.2⟩) (fun hHeld => ?_)
              clear hK1
              try simp only [Act.put, List.setIfInBounds_toArray, List.set_cons_zero, List.set_cons_succ]
              refine only_ 10 rfl (by kernel_rfl) (fun K1 hK1 => ?_)
              have hS16 := hHeld.1
              first | (refine step_row rfl 43 (.tmp 19) (.tmp 92) rfl _ ([.bool rd.neg, .slice X' rd.int.length cx', .bool rd.sep, .slice Y' rd.frac.length cy'] : List Value).toArray (by rfl) (by rfl) _ _ HB15.out infoD14 rfl (by simp [Value.oneCell']) ?_) | (refine step_row rfl 43 (.tmp 19) (.tmp 92) rfl _ ([.bool rd.neg, .slice X' rd.int.length cx', .bool rd.sep, .slice Y' rd.frac.length cy'] : List Value).toArray (by rfl) (by rfl) _ _ (HB15.out.ext hx14) infoD14 rfl (by simp [Value.oneCell']) ?_)
              refine hK1.out _ _ (⟨Ext.setRow hS16 HLE15.out _, Ext.range_ (Ext.setRow hS16 HLE15.out _) HW8.out.range, Ext.cell_ (Ext.setRow hS16 HLE15.out _) HCM.out⟩) (fun hHeld => ?_)
              clear hK1
              try simp only [Act.put, List.setIfInBounds_toArray, List.set_cons_zero, List.set_cons_succ]
              refine take_ 11 (v := ?_) rfl (by kernel_rfl) (by kernel_rfl) (by kernel_rfl) (fun _ _ _ h => h) hHeld (by rfl) ?_ ?_
              rotate_left 1
              · (intro w hSw; (try dsimp only at hSw); go_simp; all_goals with_reducible rfl)
              try simp only [Act.put, List.setIfInBounds_toArray, List.set_cons_zero, List.set_cons_succ]
              refine wpAnyH_done (by kernel_rfl) ?_ _
              refine NoPanic.normal ?_
              have HXE := Lib.hid hHeld.1
              clear hHeld
              go_wp2
              go_roundw
              case rel => exact ⟨m + 1, by omega, by go_num, HXE.out⟩
              case measure => simp [intOf]; omega
            · intro K1 hK1
              go_simp
              obtain ⟨hb15, hx15, hle15⟩ := box_of hHeld.1 43 zeroD
              have HB15 := Lib.hid hb15
              have HLE15 := Lib.hid hle15
              clear hb15 hle15
              refine hK1.out _ _ (⟨hHeld.1.trans hx15, Ext.range_ hx15 hHeld.2.1, Ext.cell_ hx15 hHeld.2.2⟩) (fun hHeld => ?_)
              clear hK1
              try simp only [Act.put, List.setIfInBounds_toArray, List.set_cons_zero, List.set_cons_succ]
              refine only_ 5 rfl (by kernel_rfl) (fun K1 hK1 => ?_)
              go_simp
              go_at_call 28
              refine (HPB.out _ hHeld.1).mono ?_
              rintro e w14 ⟨X', Y', cx', cy', rfl, hx14⟩
              refine hK1.out _ _ (⟨hHeld.1.trans hx14, Ext.range_ hx14 hHeld.2.1, Ext.cell_ hx14 hHeld.2.2⟩) (fun hHeld => ?_)
              clear hK1
              try simp only [Act.put, List.setIfInBounds_toArray, List.set_cons_zero, List.set_cons_succ]
              refine take_ 6 (v := ?_) rfl (by kernel_rfl) (by kernel_rfl) (by kernel_rfl) (fun _ _ _ h => h) hHeld (by rfl) ?_ ?_
              rotate_left 1
              · (intro w hSw; (try dsimp only at hSw); go_simp; all_goals with_reducible rfl)
              try simp only [Act.put, List.setIfInBounds_toArray, List.set_cons_zero, List.set_cons_succ]
              refine take_ 7 (v := ?_) rfl (by kernel_rfl) (by kernel_rfl) (by kernel_rfl) (fun _ _ _ h => h) hHeld (by rfl) ?_ ?_
              rotate_left 1
              · (intro w hSw; (try dsimp only at hSw); go_simp; all_goals with_reducible rfl)
              try simp only [Act.put, List.setIfInBounds_toArray, List.set_cons_zero, List.set_cons_succ]
              refine take_ 8 (v := ?_) rfl (by kernel_rfl) (by kernel_rfl) (by kernel_rfl) (fun _ _ _ h => h) hHeld (by rfl) ?_ ?_
              rotate_left 1
              · (intro w hSw; (try dsimp only at hSw); go_simp; all_goals with_reducible rfl)
              try simp only [Act.put, List.setIfInBounds_toArray, List.set_cons_zero, List.set_cons_succ]
              refine only_ 10 rfl (by kernel_rfl) (fun K1 hK1 => ?_)
              have hS16 := hHeld.1
              first | (refine step_row rfl 43 (.tmp 19) (.tmp 92) rfl _ ([.bool rd.neg, .slice X' rd.int.length cx', .bool rd.sep, .slice Y' rd.frac.length cy'] : List Value).toArray (by rfl) (by rfl) _ _ HB15.out infoD14 rfl (by simp [Value.oneCell']) ?_) | (refine step_row rfl 43 (.tmp 19) (.tmp 92) rfl _ ([.bool rd.neg, .slice X' rd.int.length cx', .bool rd.sep, .slice Y' rd.frac.length cy'] : List Value).toArray (by rfl) (by rfl) _ _ (HB15.out.ext hx14) infoD14 rfl (by simp [Value.oneCell']) ?_)
              refine hK1.out _ _ (⟨Ext.setRow hS16 HLE15.out _, Ext.range_ (Ext.setRow hS16 HLE15.out _) HW8.out.range, Ext.cell_ (Ext.setRow hS16 HLE15.out _) HCM.out⟩) (fun hHeld => ?_)
              clear hK1
              try simp only [Act.put, List.setIfInBounds_toArray, List.set_cons_zero, List.set_cons_succ]
              refine take_ 11 (v := ?_) rfl (by kernel_rfl) (by kernel_rfl) (by kernel_rfl) (fun _ _ _ h => h) hHeld (by rfl) ?_ ?_
              rotate_left 1
              · (intro w hSw; (try dsimp only at hSw); go_simp; all_goals with_reducible rfl)
              try simp only [Act.put, List.setIfInBounds_toArray, List.set_cons_zero, List.set_cons_succ]
              refine wpAnyH_done (by kernel_rfl) ?_ _
              refine NoPanic.normal ?_
              have HXE := Lib.hid hHeld.1
              clear hHeld
              go_wp2
              go_roundw
              case rel => exact ⟨m + 1, by omega, by go_num, HXE.out⟩
              case measure => simp [intOf]; omega
          · have j1 : (re == 0) = false := by simpa using h0
            clear h0 HTT hc10
            refine wp_region_noPanic ?_
            refine wp_region_held_drew (S := fun W => Ext w10 W) (by kernel_rfl) ?_ (fun hHeld => ?_)
            · exact Ext.drew_ (Ext.refl _)
            refine take_ 0 (v := ?_) rfl (by kernel_rfl) (by kernel_rfl) (by kernel_rfl) (fun _ _ _ h => h) hHeld (by rfl) ?_ ?_
            rotate_left 1
            · (intro w hSw; (try dsimp only at hSw); go_simp; all_goals with_reducible rfl)
            try simp only [Act.put, List.setIfInBounds_toArray, List.set_cons_zero, List.set_cons_succ]
            refine take_ 1 (v := ?_) rfl (by kernel_rfl) (by kernel_rfl) (by kernel_rfl) (fun _ _ _ h => h) hHeld (by rfl) ?_ ?_
            rotate_left 1
            · (intro w hSw; (try dsimp only at hSw); go_simp; all_goals with_reducible rfl)
            try simp only [Act.put, List.setIfInBounds_toArray, List.set_cons_zero, List.set_cons_succ]
            refine take_ 2 (v := ?_) rfl (by kernel_rfl) (by kernel_rfl) (by kernel_rfl) (fun _ _ _ h => h) hHeld (by rfl) ?_ ?_
            rotate_left 1
            · (intro w hSw; (try dsimp only at hSw); go_simp; all_goals with_reducible rfl)
            try simp only [Act.put, List.setIfInBounds_toArray, List.set_cons_zero, List.set_cons_succ]
            refine skipS_ 3 rfl (by kernel_rfl) (by kernel_rfl) (by kernel_rfl) (fun _ _ _ h => h) hHeld (by rfl) ?_
            try simp only [Act.put, List.setIfInBounds_toArray, List.set_cons_zero, List.set_cons_succ]
            refine skipS_ 4 rfl (by kernel_rfl) (by kernel_rfl) (by kernel_rfl) (fun _ _ _ h => h) hHeld (by rfl) ?_
            try simp only [Act.put, List.setIfInBounds_toArray, List.set_cons_zero, List.set_cons_succ]
            refine skipS_ 5 rfl (by kernel_rfl) (by kernel_rfl) (by kernel_rfl) (fun _ _ _ h => h) hHeld (by rfl) ?_
            try simp only [Act.put, List.setIfInBounds_toArray, List.set_cons_zero, List.set_cons_succ]
            refine skipS_ 6 rfl (by kernel_rfl) (by kernel_rfl) (by kernel_rfl) (fun _ _ _ h => h) hHeld (by rfl) ?_
            try simp only [Act.put, List.setIfInBounds_toArray, List.set_cons_zero, List.set_cons_succ]
            refine skipS_ 7 rfl (by kernel_rfl) (by kernel_rfl) (by kernel_rfl) (fun _ _ _ h => h) hHeld (by rfl) ?_
            try simp only [Act.put, List.setIfInBounds_toArray, List.set_cons_zero, List.set_cons_succ]
            refine skipS_ 8 rfl (by kernel_rfl) (by kernel_rfl) (by kernel_rfl) (fun _ _ _ h => h) hHeld (by rfl) ?_
            try simp only [Act.put, List.setIfInBounds_toArray, List.set_cons_zero, List.set_cons_succ]
            refine skipS_ 9 rfl (by kernel_rfl) (by kernel_rfl) (by kernel_rfl) (fun _ _ _ h => h) hHeld (by rfl) ?_
            try simp only [Act.put, List.setIfInBounds_toArray, List.set_cons_zero, List.set_cons_succ]
            refine skipS_ 10 rfl (by kernel_rfl) (by kernel_rfl) (by kernel_rfl) (fun _ _ _ h => h) hHeld (by rfl) ?_
            try simp only [Act.put, List.setIfInBounds_toArray, List.set_cons_zero, List.set_cons_succ]
            refine skipS_ 11 rfl (by kernel_rfl) (by kernel_rfl) (by kernel_rfl) (fun _ _ _ h => h) hHeld (by rfl) ?_
            try simp only [Act.put, List.setIfInBounds_toArray, List.set_cons_zero, List.set_cons_succ]
            refine take_ 12 (v := ?_) rfl (by kernel_rfl) (by kernel_rfl) (by kernel_rfl) (fun _ _ _ h => h) hHeld (by rfl) ?_ ?_
            rotate_left 1
            · (intro w hSw; (try dsimp only at hSw); go_simp; all_goals with_reducible rfl)
            try simp only [Act.put, List.setIfInBounds_toArray, List.set_cons_zero, List.set_cons_succ]
            refine wpAnyH_done (by kernel_rfl) ?_ _
            refine NoPanic.normal ?_
            have HZ := Lib.hid hHeld
            clear hHeld
            have HX13 := Lib.hid (HX10.out.trans HZ.out)
            have HRL13 := Lib.hid (Ext.range_ HX13.out HW8.out.range)
            have HC13 := Lib.hid (Ext.cell_ HX13.out HCM.out)
            go_upto_region 19 with fail
            refine wp_region_noPanic ?_
            refine wp_region_held_drew (S := fun W => Ext w8 W ∧ W.rangeAt lb 0 [.string ⟨r.name.toArray⟩, .string ⟨r.pattern.toArray⟩, .string ⟨r.system.toArray⟩, .string ⟨r.decimal.toArray⟩, .string ⟨r.group.toArray⟩, .string ⟨r.minus.toArray⟩, .string ⟨r.percent.toArray⟩, .string ⟨r.currency.toArray⟩, .slice A p.pre.length c, .slice B p.suf.length d, .slice C p.npre.length a, .slice D p.nsuf.length b, .int .i64 p.num.prim, .int .i64 p.num.sec, .int .i64 p.num.minInt, .int .i64 p.num.minFrac, .int .i64 p.num.maxFrac] ∧ W.cell? ⟨sb, m, none⟩ = some (.string ⟨sm.toArray⟩)) (by kernel_rfl) ?_ (fun hHeld => ?_)
            · exact ⟨HX13.out.trans (Ext.drew_ (Ext.refl _)), Ext.range_ (Ext.drew_ (Ext.refl _)) HRL13.out, Ext.cell_ (Ext.drew_ (Ext.refl _)) HC13.out⟩
            refine takeRow_ (cs := [.string ⟨r.name.toArray⟩, .string ⟨r.pattern.toArray⟩, .string ⟨r.system.toArray⟩, .string ⟨r.decimal.toArray⟩, .string ⟨r.group.toArray⟩, .string ⟨r.minus.toArray⟩, .string ⟨r.percent.toArray⟩, .string ⟨r.currency.toArray⟩, .slice A p.pre.length c, .slice B p.suf.length d, .slice C p.npre.length a, .slice D p.nsuf.length b, .int .i64 p.num.prim, .int .i64 p.num.sec, .int .i64 p.num.minInt, .int .i64 p.num.minFrac, .int .i64 p.num.maxFrac]) 0 rfl (by kernel_rfl) (by kernel_rfl) (by kernel_rfl) (fun _ _ _ h => h) hHeld (by rfl) 31 ((.tmp 10)) rfl lb (0) rfl _ (fun _ h => h.2.1) Tryz.underlying31 rfl infoRL ?_
            try simp only [Act.put, List.setIfInBounds_toArray, List.set_cons_zero, List.set_cons_succ]
            refine take_ 1 (v := ?_) rfl (by kernel_rfl) (by kernel_rfl) (by kernel_rfl) (fun _ _ _ h => h) hHeld (by rfl) ?_ ?_
            rotate_left 1
            · (intro w hSw; (try dsimp only at hSw); go_simp; all_goals with_reducible rfl)
            try simp only [Act.put, List.setIfInBounds_toArray, List.set_cons_zero, List.set_cons_succ]
            refine take_ 2 (v := ?_) rfl (by kernel_rfl) (by kernel_rfl) (by kernel_rfl) (fun _ _ _ h => h) hHeld (by rfl) ?_ ?_
            rotate_left 1
            · (intro w hSw; (try dsimp only at hSw); go_simp; all_goals with_reducible rfl)
            try simp only [Act.put, List.setIfInBounds_toArray, List.set_cons_zero, List.set_cons_succ]
            refine take_ 3 (v := ?_) rfl (by kernel_rfl) (by kernel_rfl) (by kernel_rfl) (fun _ _ _ h => h) hHeld (by rfl) ?_ ?_
            rotate_left 1
            · (intro w hSw; (try dsimp only at hSw); go_simp; all_goals with_reducible rfl)
            try simp only [Act.put, List.setIfInBounds_toArray, List.set_cons_zero, List.set_cons_succ]
            refine take_ 4 (v := ?_) rfl (by kernel_rfl) (by kernel_rfl) (by kernel_rfl) (fun _ _ _ h => h) hHeld (by rfl) ?_ ?_
            rotate_left 1
            · (intro w hSw; (try dsimp only at hSw); go_simp; all_goals with_reducible rfl)
            try simp only [Act.put, List.setIfInBounds_toArray, List.set_cons_zero, List.set_cons_succ]
            refine wpAnyH_ready (rs := [5, 9]) (by kernel_rfl) (by simp) (AllReadyH.cons rfl ?_ (AllReadyH.cons rfl ?_ AllReadyH.nil))
            · intro K1 hK1
              go_simp
              go_at_call 28
              refine (HPB.out _ hHeld.1).mono ?_
              rintro e w14 ⟨X', Y', cx', cy', rfl, hx14⟩
              refine hK1.out _ _ (⟨hHeld.1.trans hx14, Ext.range_ hx14 hHeld.2.1, Ext.cell_ hx14 hHeld.2.2⟩) (fun hHeld => ?_)
              clear hK1
              try simp only [Act.put, List.setIfInBounds_toArray, List.set_cons_zero, List.set_cons_succ]
              refine take_ 6 (v := ?_) rfl (by kernel_rfl) (by kernel_rfl) (by kernel_rfl) (fun _ _ _ h => h) hHeld (by rfl) ?_ ?_
              rotate_left 1
              · (intro w hSw; (try dsimp only at hSw); go_simp; all_goals with_reducible rfl)
              try simp only [Act.put, List.setIfInBounds_toArray, List.set_cons_zero, List.set_cons_succ]
              refine take_ 7 (v := ?_) rfl (by kernel_rfl) (by kernel_rfl) (by kernel_rfl) (fun _ _ _ h => h) hHeld (by rfl) ?_ ?_
              rotate_left 1
              · (intro w hSw; (try dsimp only at hSw); go_simp; all_goals with_reducible rfl)
              try simp only [Act.put, List.setIfInBounds_toArray, List.set_cons_zero, List.set_cons_succ]
              refine take_ 8 (v := ?_) rfl (by kernel_rfl) (by kernel_rfl) (by kernel_rfl) (fun _ _ _ h => h) hHeld (by rfl) ?_ ?_
              rotate_left 1
              · (intro w hSw; (try dsimp only at hSw); go_simp; all_goals with_reducible rfl)
              try simp only [Act.put, List.setIfInBounds_toArray, List.set_cons_zero, List.set_cons_succ]
              refine only_ 9 rfl (by kernel_rfl) (fun K1 hK1 => ?_)
              go_simp
              obtain ⟨hb15, hx15, hle15⟩ := box_of hHeld.1 43 zeroD
              have HB15 := Lib.hid hb15
              have HLE15 := Lib.hid hle15
              clear hb15 hle15
              refine hK1.out _ _ (⟨hHeld.1.trans hx15, Ext.range_ hx15 hHeld.2.1, Ext.cell_ hx15 hHeld.2.2⟩) (fun hHeld => ?_)
              clear hK1
              try simp only [Act.put, List.setIfInBounds_toArray, List.set_cons_zero, List.set_cons_succ]
              refine only_ 10 rfl (by kernel_rfl) (fun K1 hK1 => ?_)
              have hS16 := hHeld.1
              first | (refine step_row rfl 43 (.tmp 19) (.tmp 92) rfl _ ([.bool rd.neg, .slice X' rd.int.length cx', .bool rd.sep, .slice Y' rd.frac.length cy'] : List Value).toArray (by rfl) (by rfl) _ _ HB15.out infoD14 rfl (by simp [Value.oneCell']) ?_) | (refine step_row rfl 43 (.tmp 19) (.tmp 92) rfl _ ([.bool rd.neg, .slice X' rd.int.length cx', .bool rd.sep, .slice Y' rd.frac.length cy'] : List Value).toArray (by rfl) (by rfl) _ _ (HB15.out.ext hx14) infoD14 rfl (by simp [Value.oneCell']) ?_)
              refine hK1.out _ _ (⟨Ext.setRow hS16 HLE15.out _, Ext.range_ (Ext.setRow hS16 HLE15.out _) HW8.out.range, Ext.cell_ (Ext.setRow hS16 HLE15.out _) HCM.out⟩) (fun hHeld => ?_)
              clear hK1
              try simp only [Act.put, List.setIfInBounds_toArray, List.set_cons_zero, List.set_cons_succ]
              refine take_ 11 (v := ?_) rfl (by kernel_rfl) (by kernel_rfl) (by kernel_rfl) (fun _ _ _ h => h) hHeld (by rfl) ?_ ?_
              rotate_left 1
              · (intro w hSw; (try dsimp only at hSw); go_simp; all_goals with_reducible rfl)
              try simp only [Act.put, List.setIfInBounds_toArray, List.set_cons_zero, List.set_cons_succ]
              refine wpAnyH_done (by kernel_rfl) ?_ _
              refine NoPanic.normal ?_
              have HXE := Lib.hid hHeld.1
              clear hHeld
              go_wp2
              go_roundw
              case rel => exact ⟨m + 1, by omega, by go_num, HXE.out⟩
              case measure => simp [intOf]; omega
            · intro K1 hK1
              go_simp
              obtain ⟨hb15, hx15, hle15⟩ := box_of hHeld.1 43 zeroD
              have HB15 := Lib.hid hb15
              have HLE15 := Lib.hid hle15
              clear hb15 hle15
              refine hK1.out _ _ (⟨hHeld.1.trans hx15, Ext.range_ hx15 hHeld.2.1, Ext.cell_ hx15 hHeld.2.2⟩) (fun hHeld => ?_)
              clear hK1
              try simp only [Act.put, List.setIfInBounds_toArray, List.set_cons_zero, List.set_cons_succ]
              refine only_ 5 rfl (by kernel_rfl) (fun K1 hK1 => ?_)
              go_simp
              go_at_call 28
              refine (HPB.out _ hHeld.1).mono ?_
              rintro e w14 ⟨X', Y', cx', cy', rfl, hx14⟩
              refine hK1.out _ _ (⟨hHeld.1.trans hx14, Ext.range_ hx14 hHeld.2.1, Ext.cell_ hx14 hHeld.2.2⟩) (fun hHeld => ?_)
              clear hK1
              try simp only [Act.put, List.setIfInBounds_toArray, List.set_cons_zero, List.set_cons_succ]
              refine take_ 6 (v := ?_) rfl (by kernel_rfl) (by kernel_rfl) (by kernel_rfl) (fun _ _ _ h => h) hHeld (by rfl) ?_ ?_
              rotate_left 1
              · (intro w hSw; (try dsimp only at hSw); go_simp; all_goals with_reducible rfl)
              try simp only [Act.put, List.setIfInBounds_toArray, List.set_cons_zero, List.set_cons_succ]
              refine take_ 7 (v := ?_) rfl (by kernel_rfl) (by kernel_rfl) (by kernel_rfl) (fun _ _ _ h => h) hHeld (by rfl) ?_ ?_
              rotate_left 1
              · (intro w hSw; (try dsimp only at hSw); go_simp; all_goals with_reducible rfl)
              try simp only [Act.put, List.setIfInBounds_toArray, List.set_cons_zero, List.set_cons_succ]
              refine take_ 8 (v := ?_) rfl (by kernel_rfl) (by kernel_rfl) (by kernel_rfl) (fun _ _ _ h => h) hHeld (by rfl) ?_ ?_
              rotate_left 1
              · (intro w hSw; (try dsimp only at hSw); go_simp; all_goals with_reducible rfl)
              try simp only [Act.put, List.setIfInBounds_toArray, List.set_cons_zero, List.set_cons_succ]
              refine only_ 10 rfl (by kernel_rfl) (fun K1 hK1 => ?_)
              have hS16 := hHeld.1
              first | (refine step_row rfl 43 (.tmp 19) (.tmp 92) rfl _ ([.bool rd.neg, .slice X' rd.int.length cx', .bool rd.sep, .slice Y' rd.frac.length cy'] : List Value).toArray (by rfl) (by rfl) _ _ HB15.out infoD14 rfl (by simp [Value.oneCell']) ?_) | (refine step_row rfl 43 (.tmp 19) (.tmp 92) rfl _ ([.bool rd.neg, .slice X' rd.int.length cx', .bool rd.sep, .slice Y' rd.frac.length cy'] : List Value).toArray (by rfl) (by rfl) _ _ (HB15.out.ext hx14) infoD14 rfl (by simp [Value.oneCell']) ?_)
              refine hK1.out _ _ (⟨Ext.setRow hS16 HLE15.out _, Ext.range_ (Ext.setRow hS16 HLE15.out _) HW8.out.range, Ext.cell_ (Ext.setRow hS16 HLE15.out _) HCM.out⟩) (fun hHeld => ?_)
              clear hK1
              try simp only [Act.put, List.setIfInBounds_toArray, List.set_cons_zero, List.set_cons_succ]
              refine take_ 11 (v := ?_) rfl (by kernel_rfl) (by kernel_rfl) (by kernel_rfl) (fun _ _ _ h => h) hHeld (by rfl) ?_ ?_
              rotate_left 1
              · (intro w hSw; (try dsimp only at hSw); go_simp; all_goals with_reducible rfl)
              try simp only [Act.put, List.setIfInBounds_toArray, List.set_cons_zero, List.set_cons_succ]
              refine wpAnyH_done (by kernel_rfl) ?_ _
              refine NoPanic.normal ?_
              have HXE := Lib.hid hHeld.1
              clear hHeld
              go_wp2
              go_roundw
              case rel => exact ⟨m + 1, by omega, by go_num, HXE.out⟩
              case measure => simp [intOf]; omega
        · have e : m = 3 := by omega
          subst e
          have HXL := Lib.hid (HX8.out.trans hx)
          clear hx
          go_wp2_with (go_at_call 31; with_reducible refine (HLV.out _ HXL.out).mono ?_; rintro e w16 ⟨rfl, hx16⟩)
          go_ret
          exact ⟨rfl, HXL.out.trans hx16⟩
end Go.Proofs.YtaobgbhgckndkaaGreatDoor.Loc
