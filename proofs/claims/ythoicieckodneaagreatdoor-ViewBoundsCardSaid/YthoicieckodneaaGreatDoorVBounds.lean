/- The law ViewBounds: how many bytes a text has at most is the document's; none has more. (Printed by wip/gen/law16.py.) -/
import Derived.Test.YthoicieckodneaaGreatDoorVwP5
import Derived.Test.YthoicieckodneaaGreatDoorVwW6
namespace Go.Proofs.YthoicieckodneaaGreatDoor.Loc
open Go.RowKit Utf All Small Strs Build EncC Pat Cls Dec Go.Proofs.YthoicieckodneaaGreatDoor.Sys
set_option linter.unusedVariables false
set_option linter.unusedSimpArgs false

set_option maxHeartbeats 16000000 in
set_option maxRecDepth 1000000 in
theorem law_ViewBounds (v0 v1 v2 v3 v4 v5 n : Int) (A0 B0 : Option Addr) (c0 e0 : Nat) (d0 : Dr) (whole : Int) (rest : Int) (w : World) (h0 : i64 v0) (h1 : i64 v1) (h2 : i64 v2) (h3 : i64 v3) (h4 : i64 v4) (h5 : i64 v5) (hn : i64 n) (hd : DrR w A0 B0 d0) (hi : DrI d0) (hwhole : i64 whole) (hrest : i64 rest) (hT : Tabs w) :
    Calls Tryz.prog 12 #[.agg ([.int .i64 v0, .int .i64 v1, .int .i64 v2, .int .i64 v3, .int .i64 v4, .int .i64 v5] : List Value).toArray, .int .i64 n, .agg ([.bool d0.neg, .slice A0 d0.int.length c0, .bool d0.sep, .slice B0 d0.frac.length e0] : List Value).toArray, .int .i64 whole, .int .i64 rest] w fun e w' => e = .returned (.bool true) ∧ Below w.heap.size w w' := by
  obtain ⟨r, p, dd, hK, hdok, hdi, hdf, hBG⟩ := begin16 v0 v1 v2 v3 v4 v5 n A0 B0 c0 e0 d0 h0 h1 h2 h3 h4 h5 hn hi
  have HK := Lib.hid hK
  have HBG := Lib.hid hBG
  have HTW := Lib.hid hT
  have HDA := Lib.hid hd
  have HDO := Lib.hid hdok
  have HDI : Hid (dd.int.length ≤ 100) := Lib.hid (by omega)
  have HDF : Hid (dd.frac.length ≤ 100) := Lib.hid (by omega)
  have HIL := Lib.hid (items_le hK.both (d := dd) (by omega) (by omega))
  have HSN : Hid ((stopsP (itemsF (locOf r p) dd) (ahead (locOf r p) dd.neg).length).length = (atomsF dd).length + 1) := Lib.hid (stops_len hdok)
  have HUP := Lib.hid (stops_up hK.both hdok)
  have hal : (atomsF dd).length ≤ 19 := by rw [atoms_len]; split <;> omega
  have HLV : Hid (∀ W, Ext w W → Calls Tryz.prog 37 #[] W fun e w' => e = .returned (.bool true) ∧ Ext W w') := Lib.hid fun W hW => lives16 W (HTW.out.ext hW)
  have b1 := (Box.new w 23 [.int .i64 v0, .int .i64 v1, .int .i64 v2, .int .i64 v3, .int .i64 v4, .int .i64 v5]).alloc (.cells ([.bool d0.neg, .slice A0 d0.int.length c0, .bool d0.sep, .slice B0 d0.frac.length e0] : List Value).toArray 26)
  have c1 := Box.new (w.alloc (.cells ([.int .i64 v0, .int .i64 v1, .int .i64 v2, .int .i64 v3, .int .i64 v4, .int .i64 v5] : List Value).toArray 23)) 26 [.bool d0.neg, .slice A0 d0.int.length c0, .bool d0.sep, .slice B0 d0.frac.length e0]
  have hs1 : (w.alloc (.cells ([.int .i64 v0, .int .i64 v1, .int .i64 v2, .int .i64 v3, .int .i64 v4, .int .i64 v5] : List Value).toArray 23)).heap.size = w.heap.size + 1 := by simp
  rw [hs1] at c1
  have hx1 : Ext w ((w.alloc (.cells ([.int .i64 v0, .int .i64 v1, .int .i64 v2, .int .i64 v3, .int .i64 v4, .int .i64 v5] : List Value).toArray 23)).alloc (.cells ([.bool d0.neg, .slice A0 d0.int.length c0, .bool d0.sep, .slice B0 d0.frac.length e0] : List Value).toArray 26)) := Ext.alloc_ (Ext.alloc_ (Ext.refl w) _) _
  have HRG := Lib.hid b1.range
  have HRD := Lib.hid c1.range
  have HX1 := Lib.hid hx1
  clear hK hBG hd hi hT b1 c1 hs1 hx1 h0 h1 h2 h3 h4 h5 hn hdok
  go_enter Tryz.func12, Tryz.ntmps12
  go_upto_region 1 with fail
  change Code.wp _ _ _ _ ((w.alloc (.cells ([.int .i64 v0, .int .i64 v1, .int .i64 v2, .int .i64 v3, .int .i64 v4, .int .i64 v5] : List Value).toArray 23)).alloc (.cells ([.bool d0.neg, .slice A0 d0.int.length c0, .bool d0.sep, .slice B0 d0.frac.length e0] : List Value).toArray 26))
  generalize (w.alloc (.cells ([.int .i64 v0, .int .i64 v1, .int .i64 v2, .int .i64 v3, .int .i64 v4, .int .i64 v5] : List Value).toArray 23)).alloc (.cells ([.bool d0.neg, .slice A0 d0.int.length c0, .bool d0.sep, .slice B0 d0.frac.length e0] : List Value).toArray 26) = w1 at *
  generalize w.heap.size + 1 = db0 at *
  go_upto_region 2 with (first
    | (refine wpList_load_mid rfl 23 (.tmp 5) rfl w.heap.size 0 rfl [.int .i64 v0, .int .i64 v1, .int .i64 v2, .int .i64 v3, .int .i64 v4, .int .i64 v5] _ HRG.out Tryz.underlying23 rfl infoG ?_)
    | (refine wpList_load_mid rfl 26 (.tmp 7) rfl db0 0 rfl [.bool d0.neg, .slice A0 d0.int.length c0, .bool d0.sep, .slice B0 d0.frac.length e0] _ HRD.out Tryz.underlying26 rfl infoD14 ?_)
    | (go_at_call 30; with_reducible refine (HBG.out _ (HTW.out.ext HX1.out) (HDA.out.ext HX1.out)).mono ?_; rintro e w2 ⟨vb, E, cE, F, cF, A, B, C, D, c, d, a, b, X, Y, cx, cy, rfl, hvw, hpt, hcap, hdr, oX, oY, ⟨g, A', B', C', D', c', d', a', b', hLR⟩, hx2⟩; have hz1 := (Box.new w2 34 zero17).alloc (.cells zeroD.toArray 26); have hz2 := box_two w2 34 26 zero17 zeroD; have hz3 := hz2.other (k := w2.heap.size) (by omega) (refLV A B C D c d a b r p).toArray)
    | (refine wpList_store_row rfl 34 (.tmp 12) (.tmp 24) rfl w2.heap.size (refLV A B C D c d a b r p).toArray rfl rfl _ _ hz1 infoRL rfl (refL_one A B C D c d a b r p) ?_)
    | (refine wpList_store_row rfl 26 (.tmp 13) (.tmp 25) rfl (w2.heap.size + 1) ([.bool dd.neg, .slice X dd.int.length cx, .bool dd.sep, .slice Y dd.frac.length cy] : List Value).toArray rfl rfl _ _ hz3 infoD14 rfl (by simp [Value.oneCell']) ?_))
  have hx3 : Ext w2 ((((w2.alloc (.cells zero17.toArray 34)).alloc (.cells zeroD.toArray 26)).setRow w2.heap.size (refLV A B C D c d a b r p).toArray).setRow (w2.heap.size + 1) ([.bool dd.neg, .slice X dd.int.length cx, .bool dd.sep, .slice Y dd.frac.length cy] : List Value).toArray) := Ext.setRow (Ext.setRow (Ext.alloc_ (Ext.alloc_ (Ext.refl _) _) _) (Nat.le_refl _) _) (Nat.le_succ _) _
  have hb3 : Box ((((w2.alloc (.cells zero17.toArray 34)).alloc (.cells zeroD.toArray 26)).setRow w2.heap.size (refLV A B C D c d a b r p).toArray).setRow (w2.heap.size + 1) ([.bool dd.neg, .slice X dd.int.length cx, .bool dd.sep, .slice Y dd.frac.length cy] : List Value).toArray) w2.heap.size 34 (refLV A B C D c d a b r p) := (hz1.set (refLV A B C D c d a b r p).toArray).other (by omega) _
  have hc3 : Box ((((w2.alloc (.cells zero17.toArray 34)).alloc (.cells zeroD.toArray 26)).setRow w2.heap.size (refLV A B C D c d a b r p).toArray).setRow (w2.heap.size + 1) ([.bool dd.neg, .slice X dd.int.length cx, .bool dd.sep, .slice Y dd.frac.length cy] : List Value).toArray) (w2.heap.size + 1) 26 [.bool dd.neg, .slice X dd.int.length cx, .bool dd.sep, .slice Y dd.frac.length cy] := hz3.set ([.bool dd.neg, .slice X dd.int.length cx, .bool dd.sep, .slice Y dd.frac.length cy] : List Value).toArray
  change Code.wp _ _ _ _ ((((w2.alloc (.cells zero17.toArray 34)).alloc (.cells zeroD.toArray 26)).setRow w2.heap.size (refLV A B C D c d a b r p).toArray).setRow (w2.heap.size + 1) ([.bool dd.neg, .slice X dd.int.length cx, .bool dd.sep, .slice Y dd.frac.length cy] : List Value).toArray)
  have HVW := Lib.hid (hvw.ext hx3)
  have HPT := Lib.hid (hpt.ext hx3)
  have HDR := Lib.hid (hdr.ext hx3)
  have HLR := Lib.hid (hLR.ext hx3)
  have HX3 := Lib.hid (HX1.out.trans (hx2.trans hx3))
  have HCAP := Lib.hid hcap
  have HOX := Lib.hid oX
  have HOY := Lib.hid oY
  generalize (((w2.alloc (.cells zero17.toArray 34)).alloc (.cells zeroD.toArray 26)).setRow w2.heap.size (refLV A B C D c d a b r p).toArray).setRow (w2.heap.size + 1) ([.bool dd.neg, .slice X dd.int.length cx, .bool dd.sep, .slice Y dd.frac.length cy] : List Value).toArray = w3 at *
  generalize w2.heap.size + 1 = db at *
  generalize w2.heap.size = lb at *
  have HLB := Lib.hid hb3
  have HDB := Lib.hid hc3
  have HRL : Hid (w3.rangeAt lb 0 [.string ⟨r.name.toArray⟩, .string ⟨r.pattern.toArray⟩, .string ⟨r.system.toArray⟩, .string ⟨r.decimal.toArray⟩, .string ⟨r.group.toArray⟩, .string ⟨r.minus.toArray⟩, .string ⟨r.percent.toArray⟩, .string ⟨r.currency.toArray⟩, .slice A p.pre.length c, .slice B p.suf.length d, .slice C p.npre.length a, .slice D p.nsuf.length b, .int .i64 p.num.prim, .int .i64 p.num.sec, .int .i64 p.num.minInt, .int .i64 p.num.minFrac, .int .i64 p.num.maxFrac]) := Lib.hid hb3.range
  have HRE : Hid (w3.rangeAt db 0 [.bool dd.neg, .slice X dd.int.length cx, .bool dd.sep, .slice Y dd.frac.length cy]) := Lib.hid hc3.range
  clear hz1 hz2 hz3 hb3 hc3 hx2 hx3 hvw hpt hcap hdr oX oY hLR HRG HRD HBG
  have HKN := Lib.hid HK.out.knd
  have HTB : Hid ((textI (itemsF (locOf r p) dd)).length ≤ boundF (locOf r p) dd.int.length dd.frac.length) := Lib.hid (text_bound (locOf r p) HDO.out)
  have HVT : Hid (∀ W, Ext w3 W → Calls Tryz.prog 36 #[.pointer (some ⟨vb, 0, none⟩)] W fun e w' => e = .returned (.string ⟨(textI (itemsF (locOf r p) dd)).toArray⟩) ∧ W = w') := Lib.hid fun W hW => view_text (HVW.out.ext hW)
  have HRB : Hid (∀ W (x y : Nat), Ext w3 W → x ≤ 65 → y ≤ 65 → Calls Tryz.prog 45 #[.agg ([.string ⟨r.name.toArray⟩, .string ⟨r.pattern.toArray⟩, .string ⟨r.system.toArray⟩, .string ⟨r.decimal.toArray⟩, .string ⟨r.group.toArray⟩, .string ⟨r.minus.toArray⟩, .string ⟨r.percent.toArray⟩, .string ⟨r.currency.toArray⟩, .slice A p.pre.length c, .slice B p.suf.length d, .slice C p.npre.length a, .slice D p.nsuf.length b, .int .i64 p.num.prim, .int .i64 p.num.sec, .int .i64 p.num.minInt, .int .i64 p.num.minFrac, .int .i64 p.num.maxFrac] : List Value).toArray, .int .i64 (x : Int), .int .i64 (y : Int)] W fun e w' => e = .returned (.int .i64 ((boundF (locOf r p) x y : Nat) : Int)) ∧ Ext W w') := Lib.hid fun W x y hW hx hy => ref16_bound A B C D c d a b x y r p W HKN.out (HPT.out.ext hW) HCAP.out hx hy
  have HNW : Hid (∀ W, Ext w3 W → Calls Tryz.prog 43 #[.agg ([.string ⟨r.name.toArray⟩, .string ⟨r.pattern.toArray⟩, .string ⟨r.system.toArray⟩, .string ⟨r.decimal.toArray⟩, .string ⟨r.group.toArray⟩, .string ⟨r.minus.toArray⟩, .string ⟨r.percent.toArray⟩, .string ⟨r.currency.toArray⟩] : List Value).toArray] W fun e w' => ∃ g A B C D c d a b, e = .returned (.tuple #[.pointer (some ⟨g, 0, none⟩), .nilIface]) ∧ LocR w' g A B C D c d a b (locOf r p) ∧ Ext W w') := Lib.hid fun W hW =>
    new_ r p W HK.out.both.pat (by have := HK.out.both.plen; omega) HK.out.both.nm HK.out.both.may (HTW.out.ext (HX3.out.trans hW))
  have HAW : Hid (∀ W, Calls Tryz.prog 38 #[.int .i64 whole, .int .i64 65] W fun e w' => e = .returned (.int .i64 (aroundF whole 65)) ∧ W = w') := Lib.hid fun W => around _ _ W hwhole.1 hwhole.2 (by omega) (by omega)
  have HAR : Hid (∀ W, Calls Tryz.prog 38 #[.int .i64 rest, .int .i64 65] W fun e w' => e = .returned (.int .i64 (aroundF rest 65)) ∧ W = w') := Lib.hid fun W => around _ _ W hrest.1 hrest.2 (by omega) (by omega)
  have hba := aroundF_bd whole 65 (by omega)
  have hbb := aroundF_bd rest 65 (by omega)
  generalize aroundF whole 65 = za at *
  generalize aroundF rest 65 = zb at *
  obtain ⟨na, rfl⟩ := Int.eq_ofNat_of_zero_le hba.1
  obtain ⟨nb, rfl⟩ := Int.eq_ofNat_of_zero_le hbb.1
  have hna : na ≤ 65 := by omega
  have hnb : nb ≤ 65 := by omega
  have HR8 : Hid (w3.rangeAt lb 0 [.string ⟨r.name.toArray⟩, .string ⟨r.pattern.toArray⟩, .string ⟨r.system.toArray⟩, .string ⟨r.decimal.toArray⟩, .string ⟨r.group.toArray⟩, .string ⟨r.minus.toArray⟩, .string ⟨r.percent.toArray⟩, .string ⟨r.currency.toArray⟩]) := Lib.hid (refL_rec HLB.out.range)
  generalize textI (itemsF (locOf r p) dd) = TX at *
  go_upto_region 3 with (first
    | (refine wpList_load_mid rfl 29 (.tmp 27) rfl lb 0 rfl [.string ⟨r.name.toArray⟩, .string ⟨r.pattern.toArray⟩, .string ⟨r.system.toArray⟩, .string ⟨r.decimal.toArray⟩, .string ⟨r.group.toArray⟩, .string ⟨r.minus.toArray⟩, .string ⟨r.percent.toArray⟩, .string ⟨r.currency.toArray⟩] _ HR8.out Tryz.underlying29 rfl infoR ?_)
    | (go_at_call 43; with_reducible refine (HNW.out _ (Ext.refl _)).mono ?_; rintro e w4 ⟨g2, A2, B2, C2, D2, c2, d2, a2, b2, rfl, hLR2, hx4⟩))
  have HX4 := Lib.hid hx4
  have HVB : Hid (∀ W (x y : Nat), Ext w4 W → x ≤ 65 → y ≤ 65 → Calls Tryz.prog 44 #[.pointer (some ⟨g2, 0, none⟩), .int .i64 (x : Int), .int .i64 (y : Int)] W fun e w' => e = .returned (.int .i64 ((boundF (locOf r p) x y : Nat) : Int)) ∧ Ext W w') := Lib.hid fun W x y hW hx hy => view_bound g2 A2 B2 C2 D2 c2 d2 a2 b2 x y r p W (hLR2.ext hW) HKN.out hx hy
  have HRL4 := Lib.hid (Ext.range_ hx4 HRL.out)
  have q1 := (HDB.out.ext hx4).cell (j := 1) (v := .slice X dd.int.length cx) rfl
  have q3 := (HDB.out.ext hx4).cell (j := 3) (v := .slice Y dd.frac.length cy) rfl
  clear hx4 HNW HR8
  have HV1 := Lib.hid (fun W hW => HVB.out W na nb hW hna hnb)
  have HV2 := Lib.hid (fun W hW => HVB.out W dd.int.length dd.frac.length hW (by omega) (by omega))
  have HR1 := Lib.hid (fun W hW => HRB.out W na nb (HX4.out.trans hW) hna hnb)
  have HR2 := Lib.hid (fun W hW => HRB.out W dd.int.length dd.frac.length (HX4.out.trans hW) (by omega) (by omega))
  generalize boundF (locOf r p) na nb = B1 at *
  generalize boundF (locOf r p) dd.int.length dd.frac.length = B2 at *
  have htb := HTB.out
  have k1 : (TX.length : Int) ≤ (B2 : Int) := by omega
  have k2 : ((TX.length : Int) ≤ (B2 : Int)) = True := eq_true k1
  have k3 : (B1 == B1) = true := by simp
  have k4 : (B2 == B2) = true := by simp
  go_upto_region 7 with (first
    | (go_at_call 38; with_reducible refine (HAW.out _).mono ?_; rintro e w5 ⟨rfl, rfl⟩)
    | (go_at_call 38; with_reducible refine (HAR.out _).mono ?_; rintro e w5 ⟨rfl, rfl⟩))
  refine wp_region_noPanic ?_
  refine wp_region_held_drew (S := fun W => Ext w4 W ∧ W.rangeAt lb 0 [.string ⟨r.name.toArray⟩, .string ⟨r.pattern.toArray⟩, .string ⟨r.system.toArray⟩, .string ⟨r.decimal.toArray⟩, .string ⟨r.group.toArray⟩, .string ⟨r.minus.toArray⟩, .string ⟨r.percent.toArray⟩, .string ⟨r.currency.toArray⟩, .slice A p.pre.length c, .slice B p.suf.length d, .slice C p.npre.length a, .slice D p.nsuf.length b, .int .i64 p.num.prim, .int .i64 p.num.sec, .int .i64 p.num.minInt, .int .i64 p.num.minFrac, .int .i64 p.num.maxFrac] ∧ W.cell? ⟨db, 1, none⟩ = some (.slice X dd.int.length cx) ∧ W.cell? ⟨db, 3, none⟩ = some (.slice Y dd.frac.length cy)) (by kernel_rfl) ?_ (fun hHeld => ?_)
  · exact ⟨Ext.drew_ (Ext.refl _), HRL4.out, q1, q3⟩
  refine take_ 0 (v := ?_) rfl (by kernel_rfl) (by kernel_rfl) (by kernel_rfl) (fun _ _ _ h => h) hHeld (by rfl) ?_ ?_
  rotate_left 1
  · (intro w hSw; (try dsimp only at hSw); go_simp; all_goals with_reducible rfl)
  try simp only [Act.put, List.setIfInBounds_toArray, List.set_cons_zero, List.set_cons_succ]
  refine take_ 1 (v := ?_) rfl (by kernel_rfl) (by kernel_rfl) (by kernel_rfl) (fun _ _ _ h => h) hHeld (by rfl) ?_ ?_
  rotate_left 1
  · (intro w hSw; (try dsimp only at hSw); go_simp; all_goals with_reducible rfl)
  try simp only [Act.put, List.setIfInBounds_toArray, List.set_cons_zero, List.set_cons_succ]
  refine take_ 2 (v := ?_) rfl (by kernel_rfl) (by kernel_rfl) (by kernel_rfl) (fun _ _ _ h => h) hHeld (by rfl) ?_ ?_
  rotate_left 1
  · (intro w hSw; (try dsimp only at hSw); go_simp; all_goals with_reducible rfl)
  try simp only [Act.put, List.setIfInBounds_toArray, List.set_cons_zero, List.set_cons_succ]
  refine takeRow_ (cs := [.string ⟨r.name.toArray⟩, .string ⟨r.pattern.toArray⟩, .string ⟨r.system.toArray⟩, .string ⟨r.decimal.toArray⟩, .string ⟨r.group.toArray⟩, .string ⟨r.minus.toArray⟩, .string ⟨r.percent.toArray⟩, .string ⟨r.currency.toArray⟩, .slice A p.pre.length c, .slice B p.suf.length d, .slice C p.npre.length a, .slice D p.nsuf.length b, .int .i64 p.num.prim, .int .i64 p.num.sec, .int .i64 p.num.minInt, .int .i64 p.num.minFrac, .int .i64 p.num.maxFrac]) 4 rfl (by kernel_rfl) (by kernel_rfl) (by kernel_rfl) (fun _ _ _ h => h) hHeld (by rfl) 34 ((.tmp 12)) rfl lb (0) rfl _ (fun _ h => h.2.1) Tryz.underlying34 rfl infoRL ?_
  try simp only [Act.put, List.setIfInBounds_toArray, List.set_cons_zero, List.set_cons_succ]
  refine take_ 5 (v := ?_) rfl (by kernel_rfl) (by kernel_rfl) (by kernel_rfl) (fun _ _ _ h => h) hHeld (by rfl) ?_ ?_
  rotate_left 1
  · (intro w hSw; (try dsimp only at hSw); go_simp; all_goals with_reducible rfl)
  try simp only [Act.put, List.setIfInBounds_toArray, List.set_cons_zero, List.set_cons_succ]
  refine take_ 6 (v := ?_) rfl (by kernel_rfl) (by kernel_rfl) (by kernel_rfl) (fun _ _ _ h => h) hHeld (by rfl) ?_ ?_
  rotate_left 1
  · (intro w hSw; (try dsimp only at hSw); go_simp; all_goals with_reducible rfl)
  try simp only [Act.put, List.setIfInBounds_toArray, List.set_cons_zero, List.set_cons_succ]
  refine only_ 3 rfl (by kernel_rfl) (fun K1 hK1 => ?_)
  go_simp
  go_at_call 44
  refine (HV1.out _ hHeld.1).mono ?_
  rintro e w5 ⟨rfl, hx5⟩
  refine hK1.out _ _ (⟨hHeld.1.trans hx5, Ext.range_ hx5 hHeld.2.1, Ext.cell_ hx5 hHeld.2.2.1, Ext.cell_ hx5 hHeld.2.2.2⟩) (fun hHeld => ?_)
  clear hK1
  try simp only [Act.put, List.setIfInBounds_toArray, List.set_cons_zero, List.set_cons_succ]
  refine only_ 7 rfl (by kernel_rfl) (fun K1 hK1 => ?_)
  go_simp
  go_at_call 45
  refine (HR1.out _ hHeld.1).mono ?_
  rintro e w6 ⟨rfl, hx6⟩
  refine hK1.out _ _ (⟨hHeld.1.trans hx6, Ext.range_ hx6 hHeld.2.1, Ext.cell_ hx6 hHeld.2.2.1, Ext.cell_ hx6 hHeld.2.2.2⟩) (fun hHeld => ?_)
  clear hK1
  try simp only [Act.put, List.setIfInBounds_toArray, List.set_cons_zero, List.set_cons_succ]
  refine take_ 8 (v := ?_) rfl (by kernel_rfl) (by kernel_rfl) (by kernel_rfl) (fun _ _ _ h => h) hHeld (by rfl) ?_ ?_
  rotate_left 1
  · (intro w hSw; (try dsimp only at hSw); go_simp; all_goals with_reducible rfl)
  try simp only [Act.put, List.setIfInBounds_toArray, List.set_cons_zero, List.set_cons_succ]
  refine take_ 9 (v := ?_) rfl (by kernel_rfl) (by kernel_rfl) (by kernel_rfl) (fun _ _ _ h => h) hHeld (by rfl) ?_ ?_
  rotate_left 1
  · (intro w hSw; (try dsimp only at hSw); go_simp; all_goals with_reducible rfl)
  try simp only [Act.put, List.setIfInBounds_toArray, List.set_cons_zero, List.set_cons_succ]
  refine take_ 10 (v := ?_) rfl (by kernel_rfl) (by kernel_rfl) (by kernel_rfl) (fun _ _ _ h => h) hHeld (by rfl) ?_ ?_
  rotate_left 1
  · (intro w hSw; (try dsimp only at hSw); go_simp; all_goals with_reducible rfl)
  try simp only [Act.put, List.setIfInBounds_toArray, List.set_cons_zero, List.set_cons_succ]
  refine take_ 13 (v := ?_) rfl (by kernel_rfl) (by kernel_rfl) (by kernel_rfl) (fun _ _ _ h => h) hHeld (by rfl) ?_ ?_
  rotate_left 1
  · (intro w hSw; (try dsimp only at hSw); go_simp; all_goals with_reducible rfl)
  try simp only [Act.put, List.setIfInBounds_toArray, List.set_cons_zero, List.set_cons_succ]
  refine take_ 14 (v := ?_) rfl (by kernel_rfl) (by kernel_rfl) (by kernel_rfl) (fun _ _ _ h => h) hHeld (by rfl) ?_ ?_
  rotate_left 1
  · (intro w hSw; (try dsimp only at hSw); go_simp; all_goals with_reducible rfl)
  try simp only [Act.put, List.setIfInBounds_toArray, List.set_cons_zero, List.set_cons_succ]
  refine take_ 15 (v := ?_) rfl (by kernel_rfl) (by kernel_rfl) (by kernel_rfl) (fun _ _ _ h => h) hHeld (by rfl) ?_ ?_
  rotate_left 1
  · (intro w hSw; (try dsimp only at hSw); go_simp; all_goals with_reducible rfl)
  try simp only [Act.put, List.setIfInBounds_toArray, List.set_cons_zero, List.set_cons_succ]
  refine take_ 16 (v := ?_) rfl (by kernel_rfl) (by kernel_rfl) (by kernel_rfl) (fun _ _ _ h => h) hHeld (by rfl) ?_ ?_
  rotate_left 1
  · (intro w hSw; (try dsimp only at hSw); go_simp; all_goals with_reducible rfl)
  try simp only [Act.put, List.setIfInBounds_toArray, List.set_cons_zero, List.set_cons_succ]
  refine take_ 17 (v := ?_) rfl (by kernel_rfl) (by kernel_rfl) (by kernel_rfl) (fun _ _ _ h => h) hHeld (by rfl) ?_ ?_
  rotate_left 1
  · (intro w hSw; (try dsimp only at hSw); go_simp; all_goals with_reducible rfl)
  try simp only [Act.put, List.setIfInBounds_toArray, List.set_cons_zero, List.set_cons_succ]
  refine take_ 18 (v := ?_) rfl (by kernel_rfl) (by kernel_rfl) (by kernel_rfl) (fun _ _ _ h => h) hHeld (by rfl) ?_ ?_
  rotate_left 1
  · (intro w hSw; (try dsimp only at hSw); go_simp; all_goals with_reducible rfl)
  try simp only [Act.put, List.setIfInBounds_toArray, List.set_cons_zero, List.set_cons_succ]
  refine take_ 19 (v := ?_) rfl (by kernel_rfl) (by kernel_rfl) (by kernel_rfl) (fun _ _ _ h => h) hHeld (by rfl) ?_ ?_
  rotate_left 1
  · (intro w hSw; (try dsimp only at hSw); go_simp; all_goals with_reducible rfl)
  try simp only [Act.put, List.setIfInBounds_toArray, List.set_cons_zero, List.set_cons_succ]
  refine only_ 11 rfl (by kernel_rfl) (fun K1 hK1 => ?_)
  go_simp
  go_at_call 36
  refine (HVT.out _ (HX4.out.trans hHeld.1)).mono ?_
  rintro e w7 ⟨rfl, rfl⟩
  refine hK1.out _ _ (hHeld) (fun hHeld => ?_)
  clear hK1
  try simp only [Act.put, List.setIfInBounds_toArray, List.set_cons_zero, List.set_cons_succ]
  refine take_ 12 (v := ?_) rfl (by kernel_rfl) (by kernel_rfl) (by kernel_rfl) (fun _ _ _ h => h) hHeld (by rfl) ?_ ?_
  rotate_left 1
  · (intro w hSw; (try dsimp only at hSw); go_simp; all_goals with_reducible rfl)
  try simp only [Act.put, List.setIfInBounds_toArray, List.set_cons_zero, List.set_cons_succ]
  refine only_ 20 rfl (by kernel_rfl) (fun K1 hK1 => ?_)
  go_simp
  go_at_call 44
  refine (HV2.out _ hHeld.1).mono ?_
  rintro e w8 ⟨rfl, hx8⟩
  refine hK1.out _ _ (⟨hHeld.1.trans hx8, Ext.range_ hx8 hHeld.2.1, Ext.cell_ hx8 hHeld.2.2.1, Ext.cell_ hx8 hHeld.2.2.2⟩) (fun hHeld => ?_)
  clear hK1
  try simp only [Act.put, List.setIfInBounds_toArray, List.set_cons_zero, List.set_cons_succ]
  refine take_ 21 (v := ?_) rfl (by kernel_rfl) (by kernel_rfl) (by kernel_rfl) (fun _ _ _ h => h) hHeld (by rfl) ?_ ?_
  rotate_left 1
  · (intro w hSw; (try dsimp only at hSw); go_simp; all_goals with_reducible rfl)
  try simp only [Act.put, List.setIfInBounds_toArray, List.set_cons_zero, List.set_cons_succ]
  refine take_ 22 (v := ?_) rfl (by kernel_rfl) (by kernel_rfl) (by kernel_rfl) (fun _ _ _ h => h) hHeld (by rfl) ?_ ?_
  rotate_left 1
  · (intro w hSw; (try dsimp only at hSw); go_simp; all_goals with_reducible rfl)
  try simp only [Act.put, List.setIfInBounds_toArray, List.set_cons_zero, List.set_cons_succ]
  refine take_ 23 (v := ?_) rfl (by kernel_rfl) (by kernel_rfl) (by kernel_rfl) (fun _ _ _ h => h) hHeld (by rfl) ?_ ?_
  rotate_left 1
  · (intro w hSw; (try dsimp only at hSw); go_simp; all_goals with_reducible rfl)
  try simp only [Act.put, List.setIfInBounds_toArray, List.set_cons_zero, List.set_cons_succ]
  refine take_ 24 (v := ?_) rfl (by kernel_rfl) (by kernel_rfl) (by kernel_rfl) (fun _ _ _ h => h) hHeld (by rfl) ?_ ?_
  rotate_left 1
  · (intro w hSw; (try dsimp only at hSw); go_simp; all_goals with_reducible rfl)
  try simp only [Act.put, List.setIfInBounds_toArray, List.set_cons_zero, List.set_cons_succ]
  refine take_ 25 (v := ?_) rfl (by kernel_rfl) (by kernel_rfl) (by kernel_rfl) (fun _ _ _ h => h) hHeld (by rfl) ?_ ?_
  rotate_left 1
  · (intro w hSw; (try dsimp only at hSw); go_simp; all_goals with_reducible rfl)
  try simp only [Act.put, List.setIfInBounds_toArray, List.set_cons_zero, List.set_cons_succ]
  refine take_ 26 (v := ?_) rfl (by kernel_rfl) (by kernel_rfl) (by kernel_rfl) (fun _ _ _ h => h) hHeld (by rfl) ?_ ?_
  rotate_left 1
  · (intro w hSw; (try dsimp only at hSw); go_simp; all_goals with_reducible rfl)
  try simp only [Act.put, List.setIfInBounds_toArray, List.set_cons_zero, List.set_cons_succ]
  refine take_ 27 (v := ?_) rfl (by kernel_rfl) (by kernel_rfl) (by kernel_rfl) (fun _ _ _ h => h) hHeld (by rfl) ?_ ?_
  rotate_left 1
  · (intro w hSw; (try dsimp only at hSw); go_simp; all_goals with_reducible rfl)
  try simp only [Act.put, List.setIfInBounds_toArray, List.set_cons_zero, List.set_cons_succ]
  refine take_ 28 (v := ?_) rfl (by kernel_rfl) (by kernel_rfl) (by kernel_rfl) (fun _ _ _ h => h) hHeld (by rfl) ?_ ?_
  rotate_left 1
  · (intro w hSw; (try dsimp only at hSw); go_simp; all_goals with_reducible rfl)
  try simp only [Act.put, List.setIfInBounds_toArray, List.set_cons_zero, List.set_cons_succ]
  refine take_ 29 (v := ?_) rfl (by kernel_rfl) (by kernel_rfl) (by kernel_rfl) (fun _ _ _ h => h) hHeld (by rfl) ?_ ?_
  rotate_left 1
  · (intro w hSw; (try dsimp only at hSw); go_simp; all_goals with_reducible rfl)
  try simp only [Act.put, List.setIfInBounds_toArray, List.set_cons_zero, List.set_cons_succ]
  refine take_ 30 (v := ?_) rfl (by kernel_rfl) (by kernel_rfl) (by kernel_rfl) (fun _ _ _ h => h) hHeld (by rfl) ?_ ?_
  rotate_left 1
  · (intro w hSw; (try dsimp only at hSw); go_simp; all_goals with_reducible rfl)
  try simp only [Act.put, List.setIfInBounds_toArray, List.set_cons_zero, List.set_cons_succ]
  refine takeRow_ (cs := [.string ⟨r.name.toArray⟩, .string ⟨r.pattern.toArray⟩, .string ⟨r.system.toArray⟩, .string ⟨r.decimal.toArray⟩, .string ⟨r.group.toArray⟩, .string ⟨r.minus.toArray⟩, .string ⟨r.percent.toArray⟩, .string ⟨r.currency.toArray⟩, .slice A p.pre.length c, .slice B p.suf.length d, .slice C p.npre.length a, .slice D p.nsuf.length b, .int .i64 p.num.prim, .int .i64 p.num.sec, .int .i64 p.num.minInt, .int .i64 p.num.minFrac, .int .i64 p.num.maxFrac]) 32 rfl (by kernel_rfl) (by kernel_rfl) (by kernel_rfl) (fun _ _ _ h => h) hHeld (by rfl) 34 ((.tmp 12)) rfl lb (0) rfl _ (fun _ h => h.2.1) Tryz.underlying34 rfl infoRL ?_
  try simp only [Act.put, List.setIfInBounds_toArray, List.set_cons_zero, List.set_cons_succ]
  refine take_ 33 (v := ?_) rfl (by kernel_rfl) (by kernel_rfl) (by kernel_rfl) (fun _ _ _ h => h) hHeld (by rfl) ?_ ?_
  rotate_left 1
  · (intro w hSw; (try dsimp only at hSw); go_simp; all_goals with_reducible rfl)
  try simp only [Act.put, List.setIfInBounds_toArray, List.set_cons_zero, List.set_cons_succ]
  refine take_ 34 (v := ?_) rfl (by kernel_rfl) (by kernel_rfl) (by kernel_rfl) (fun _ _ _ h => h) hHeld (by rfl) ?_ ?_
  rotate_left 1
  · (intro w hSw; (try dsimp only at hSw); go_simp; all_goals with_reducible rfl)
  try simp only [Act.put, List.setIfInBounds_toArray, List.set_cons_zero, List.set_cons_succ]
  refine take_ 35 (v := ?_) rfl (by kernel_rfl) (by kernel_rfl) (by kernel_rfl) (fun _ _ _ h => h) hHeld (by rfl) ?_ ?_
  rotate_left 1
  · (intro w hSw; (try dsimp only at hSw); go_simp; all_goals with_reducible rfl)
  try simp only [Act.put, List.setIfInBounds_toArray, List.set_cons_zero, List.set_cons_succ]
  refine take_ 36 (v := ?_) rfl (by kernel_rfl) (by kernel_rfl) (by kernel_rfl) (fun _ _ _ h => h) hHeld (by rfl) ?_ ?_
  rotate_left 1
  · (intro w hSw; (try dsimp only at hSw); go_simp; all_goals with_reducible rfl)
  try simp only [Act.put, List.setIfInBounds_toArray, List.set_cons_zero, List.set_cons_succ]
  refine take_ 37 (v := ?_) rfl (by kernel_rfl) (by kernel_rfl) (by kernel_rfl) (fun _ _ _ h => h) hHeld (by rfl) ?_ ?_
  rotate_left 1
  · (intro w hSw; (try dsimp only at hSw); go_simp; all_goals with_reducible rfl)
  try simp only [Act.put, List.setIfInBounds_toArray, List.set_cons_zero, List.set_cons_succ]
  refine take_ 38 (v := ?_) rfl (by kernel_rfl) (by kernel_rfl) (by kernel_rfl) (fun _ _ _ h => h) hHeld (by rfl) ?_ ?_
  rotate_left 1
  · (intro w hSw; (try dsimp only at hSw); go_simp; all_goals with_reducible rfl)
  try simp only [Act.put, List.setIfInBounds_toArray, List.set_cons_zero, List.set_cons_succ]
  refine only_ 31 rfl (by kernel_rfl) (fun K1 hK1 => ?_)
  go_simp
  go_at_call 44
  refine (HV2.out _ hHeld.1).mono ?_
  rintro e w9 ⟨rfl, hx9⟩
  refine hK1.out _ _ (⟨hHeld.1.trans hx9, Ext.range_ hx9 hHeld.2.1, Ext.cell_ hx9 hHeld.2.2.1, Ext.cell_ hx9 hHeld.2.2.2⟩) (fun hHeld => ?_)
  clear hK1
  try simp only [Act.put, List.setIfInBounds_toArray, List.set_cons_zero, List.set_cons_succ]
  refine only_ 39 rfl (by kernel_rfl) (fun K1 hK1 => ?_)
  go_simp
  go_at_call 45
  refine (HR2.out _ hHeld.1).mono ?_
  rintro e w10 ⟨rfl, hx10⟩
  refine hK1.out _ _ (⟨hHeld.1.trans hx10, Ext.range_ hx10 hHeld.2.1, Ext.cell_ hx10 hHeld.2.2.1, Ext.cell_ hx10 hHeld.2.2.2⟩) (fun hHeld => ?_)
  clear hK1
  try simp only [Act.put, List.setIfInBounds_toArray, List.set_cons_zero, List.set_cons_succ]
  refine take_ 40 (v := ?_) rfl (by kernel_rfl) (by kernel_rfl) (by kernel_rfl) (fun _ _ _ h => h) hHeld (by rfl) ?_ ?_
  rotate_left 1
  · (intro w hSw; (try dsimp only at hSw); go_simp; all_goals with_reducible rfl)
  try simp only [Act.put, List.setIfInBounds_toArray, List.set_cons_zero, List.set_cons_succ]
  refine take_ 41 (v := ?_) rfl (by kernel_rfl) (by kernel_rfl) (by kernel_rfl) (fun _ _ _ h => h) hHeld (by rfl) ?_ ?_
  rotate_left 1
  · (intro w hSw; (try dsimp only at hSw); go_simp; all_goals with_reducible rfl)
  try simp only [Act.put, List.setIfInBounds_toArray, List.set_cons_zero, List.set_cons_succ]
  refine take_ 42 (v := ?_) rfl (by kernel_rfl) (by kernel_rfl) (by kernel_rfl) (fun _ _ _ h => h) hHeld (by rfl) ?_ ?_
  rotate_left 1
  · (intro w hSw; (try dsimp only at hSw); go_simp; all_goals with_reducible rfl)
  try simp only [Act.put, List.setIfInBounds_toArray, List.set_cons_zero, List.set_cons_succ]
  refine only_ 43 rfl (by kernel_rfl) (fun K1 hK1 => ?_)
  go_simp
  go_at_call 37
  refine (HLV.out _ (HX3.out.trans (HX4.out.trans hHeld.1))).mono ?_
  rintro e w11 ⟨rfl, hx11⟩
  refine hK1.out _ _ (⟨hHeld.1.trans hx11, Ext.range_ hx11 hHeld.2.1, Ext.cell_ hx11 hHeld.2.2.1, Ext.cell_ hx11 hHeld.2.2.2⟩) (fun hHeld => ?_)
  clear hK1
  try simp only [Act.put, List.setIfInBounds_toArray, List.set_cons_zero, List.set_cons_succ]
  refine take_ 44 (v := ?_) rfl (by kernel_rfl) (by kernel_rfl) (by kernel_rfl) (fun _ _ _ h => h) hHeld (by rfl) ?_ ?_
  rotate_left 1
  · (intro w hSw; (try dsimp only at hSw); go_simp; all_goals with_reducible rfl)
  try simp only [Act.put, List.setIfInBounds_toArray, List.set_cons_zero, List.set_cons_succ]
  refine take_ 45 (v := ?_) rfl (by kernel_rfl) (by kernel_rfl) (by kernel_rfl) (fun _ _ _ h => h) hHeld (by rfl) ?_ ?_
  rotate_left 1
  · (intro w hSw; (try dsimp only at hSw); go_simp; all_goals with_reducible rfl)
  try simp only [Act.put, List.setIfInBounds_toArray, List.set_cons_zero, List.set_cons_succ]
  refine wpAnyH_done (by kernel_rfl) ?_ _
  refine NoPanic.normal ?_
  have HH := Lib.hid hHeld.1
  clear hHeld
  go_wp2
  go_ret
  exact ⟨rfl, HX3.out.trans (HX4.out.trans HH.out)⟩
end Go.Proofs.YthoicieckodneaaGreatDoor.Loc
