/- Walk: a law's begin (view). (Printed by wip/gen/vwb.py.) -/
import Derived.Test.YthoicieckodneaaGreatDoorVwW2
import Derived.Test.YthoicieckodneaaGreatDoorDrG2
namespace Go.Proofs.YthoicieckodneaaGreatDoor.Loc
open Go.RowKit Utf All Small Strs Build EncC Pat Cls Dec Go.Proofs.YthoicieckodneaaGreatDoor.Sys
set_option linter.unusedVariables false
set_option linter.unusedSimpArgs false

theorem zeroD_no : ∀ k : Fin 4, ((zeroD[k.val]?.any isInt) && (zeroD[k.val + 1]?.any isStr)) = false := by decide
theorem pcs_setRowD {w : World} {b : Nat} {T : TypeId} {A : Option Addr} {q : List Pc} (hb : Box w b T zeroD) (hr : Row w A (pcsV q)) (ds : Array Value) : Row (w.setRow b ds) A (pcsV q) := by
  rcases hr with h | ⟨b', off, rfl, hc⟩
  · exact .inl h
  · cases q with
    | nil => exact .inl rfl
    | cons x r =>
      have hne : b' ≠ b := by
        intro e
        subst e
        have h0 := hc 0 (.int .i64 x.1) rfl
        have h1 := hc 1 (.string ⟨x.2.toArray⟩) rfl
        rw [cell_of_row w b' _ _ T (0, 0) hb, List.getElem?_toArray] at h0 h1
        rw [Nat.add_zero] at h0
        have hlt : off < 4 := (List.getElem?_eq_some_iff.1 h0).1
        have hk := zeroD_no ⟨off, hlt⟩
        simp only at hk
        rw [h0, h1] at hk
        simp [isInt, isStr] at hk
      exact .inr ⟨b', off, rfl, fun j v hv => (cell_setRow hne).trans (hc j v hv)⟩
theorem pt_setRowD {w : World} {b : Nat} {T : TypeId} {A B C D : Option Addr} {p : Pt} (hb : Box w b T zeroD) (h : PtR w A B C D p) (ds : Array Value) : PtR (w.setRow b ds) A B C D p :=
  ⟨pcs_setRowD hb h.1 ds, pcs_setRowD hb h.2.1 ds, pcs_setRowD hb h.2.2.1 ds, pcs_setRowD hb h.2.2.2 ds⟩
/-- what stands while the three results are told -/
structure BegS (w0 : World) (b7 b8 lb db g : Nat) (A' B' C' D' : Option Addr) (c' d' a' b' : Nat) (A B C D : Option Addr) (c d a b : Nat) (X Y : Option Addr) (cx cy : Nat) (r : Rec) (p : Pt) (dd : Dr) (W : World) : Prop where
  ext : Ext w0 W
  loc : LocR W g A' B' C' D' c' d' a' b' (locOf r p)
  pt : PtR W A B C D p
  dr : DrR W X Y dd
  rl : W.rangeAt lb 0 (refLV A B C D c d a b r p)
  rd : W.rangeAt db 0 (drV X cx Y cy dd)
/-- what does not change -/
structure BegF (w0 : World) (b7 b8 lb db g : Nat) (X Y : Option Addr) : Prop where
  h7 : w0.heap.size ≤ b7
  h8 : b7 < b8
  hl : b8 < lb
  hd : b8 < db
  x : FrA (b8 + 1) X
  y : FrA (b8 + 1) Y
section
variable {w0 : World} {b7 b8 lb db g : Nat} {A' B' C' D' : Option Addr} {c' d' a' b' : Nat} {A B C D : Option Addr} {c d a b : Nat} {X Y : Option Addr} {cx cy : Nat} {r : Rec} {p : Pt} {dd : Dr} {W W' : World}
theorem BegS.call (h : BegS w0 b7 b8 lb db g A' B' C' D' c' d' a' b' A B C D c d a b X Y cx cy r p dd W) (hx : Ext W W') : BegS w0 b7 b8 lb db g A' B' C' D' c' d' a' b' A B C D c d a b X Y cx cy r p dd W' :=
  ⟨h.ext.trans hx, h.loc.ext hx, h.pt.ext hx, h.dr.ext hx, Ext.range_ hx h.rl, Ext.range_ hx h.rd⟩
theorem BegS.set7 (h : BegS w0 b7 b8 lb db g A' B' C' D' c' d' a' b' A B C D c d a b X Y cx cy r p dd W) (f : BegF w0 b7 b8 lb db g X Y) (hb : Box W b7 34 zero17) (ds : Array Value) : BegS w0 b7 b8 lb db g A' B' C' D' c' d' a' b' A B C D c d a b X Y cx cy r p dd (W.setRow b7 ds) :=
  ⟨Ext.setRow h.ext f.h7 _, ⟨h.loc.box.other (box_ne h.loc.box hb (by decide)) _, pt_setRow hb h.loc.pt _⟩, pt_setRow hb h.pt _,
    ⟨row_keep h.dr.int f.x fun k off hk => cell_setRow (by have := f.h8; omega), row_keep h.dr.frac f.y fun k off hk => cell_setRow (by have := f.h8; omega)⟩,
    range_setRow h.rl (by have := f.h8; have := f.hl; omega) _, range_setRow h.rd (by have := f.h8; have := f.hd; omega) _⟩
theorem BegS.set8 (h : BegS w0 b7 b8 lb db g A' B' C' D' c' d' a' b' A B C D c d a b X Y cx cy r p dd W) (f : BegF w0 b7 b8 lb db g X Y) (hb : Box W b8 26 zeroD) (ds : Array Value) : BegS w0 b7 b8 lb db g A' B' C' D' c' d' a' b' A B C D c d a b X Y cx cy r p dd (W.setRow b8 ds) :=
  ⟨Ext.setRow h.ext (by have := f.h7; have := f.h8; omega) _, ⟨h.loc.box.other (box_ne h.loc.box hb (by decide)) _, pt_setRowD hb h.loc.pt _⟩, pt_setRowD hb h.pt _,
    ⟨row_keep h.dr.int f.x fun k off hk => cell_setRow (by omega), row_keep h.dr.frac f.y fun k off hk => cell_setRow (by omega)⟩,
    range_setRow h.rl (by have := f.hl; omega) _, range_setRow h.rd (by have := f.hd; omega) _⟩
end
theorem results_three {fn : Func} {p q s : Tmp} {ty tz : TypeId} (h : fn.results = #[.tmp p, .cell q ty, .cell s tz]) (tmps : Array Value) (w : World) (g k : Nat) (cs ds : List Value) {fs gs : Array _} {T U : TypeId}
    (h2 : tmps.getD q undef = .pointer (some ⟨g, 0, none⟩)) (h3 : tmps.getD s undef = .pointer (some ⟨k, 0, none⟩)) (hb : Box w g T cs) (hc : Box w k U ds) (hu : Tryz.prog.underlying ty = some (.struct fs)) (hv : Tryz.prog.underlying tz = some (.struct gs)) (hi : (Tryz.prog.info? ty).map (·.size) = some cs.length) (hj : (Tryz.prog.info? tz).map (·.size) = some ds.length) :
    (results fn tmps).run Tryz.prog w = .ok (.tuple #[tmps.getD p undef, .agg cs.toArray, .agg ds.toArray]) w := by
  have h2' : tmps[q]?.getD undef = .pointer (some ⟨g, 0, none⟩) := by simpa using h2
  have h3' : tmps[s]?.getD undef = .pointer (some ⟨k, 0, none⟩) := by simpa using h3
  have e1 := run_loadVar_row (P := Tryz.prog) w g T ty cs.toArray (0, 0) _ hb hu rfl (by rw [hi]; simp)
  have e2 := run_loadVar_row (P := Tryz.prog) w k U tz ds.toArray (0, 0) _ hc hv rfl (by rw [hj]; simp)
  simp [results, h, h2', h3', asAddr, e1, e2]
set_option maxHeartbeats 16000000 in
set_option maxRecDepth 100000 in
theorem begin16 (v0 v1 v2 v3 v4 v5 n : Int) (A0 B0 : Option Addr) (c0 e0 : Nat) (d0 : Dr) (h0 : i64 v0) (h1 : i64 v1) (h2 : i64 v2) (h3 : i64 v3) (h4 : i64 v4) (h5 : i64 v5) (hn : i64 n) (hi : DrI d0) :
    ∃ r p dd, Kin r p ∧ DrOk dd ∧ dd.int.length ≤ 12 ∧ dd.frac.length ≤ 6 ∧ ∀ w, Tabs w → DrR w A0 B0 d0 → Calls Tryz.prog 30 #[.agg ([.int .i64 v0, .int .i64 v1, .int .i64 v2, .int .i64 v3, .int .i64 v4, .int .i64 v5] : List Value).toArray, .int .i64 n, .agg ([.bool d0.neg, .slice A0 d0.int.length c0, .bool d0.sep, .slice B0 d0.frac.length e0] : List Value).toArray] w fun e w' =>
      ∃ vb E cE F cF A B C D c d a b X Y cx cy, e = .returned (.tuple #[.pointer (some ⟨vb, 0, none⟩), .agg ([.string ⟨r.name.toArray⟩, .string ⟨r.pattern.toArray⟩, .string ⟨r.system.toArray⟩, .string ⟨r.decimal.toArray⟩, .string ⟨r.group.toArray⟩, .string ⟨r.minus.toArray⟩, .string ⟨r.percent.toArray⟩, .string ⟨r.currency.toArray⟩, .slice A p.pre.length c, .slice B p.suf.length d, .slice C p.npre.length a, .slice D p.nsuf.length b, .int .i64 p.num.prim, .int .i64 p.num.sec, .int .i64 p.num.minInt, .int .i64 p.num.minFrac, .int .i64 p.num.maxFrac] : List Value).toArray, .agg ([.bool dd.neg, .slice X dd.int.length cx, .bool dd.sep, .slice Y dd.frac.length cy] : List Value).toArray]) ∧
        VwR w' vb E cE F cF (itemsF (locOf r p) dd) (stopsP (itemsF (locOf r p) dd) (ahead (locOf r p) dd.neg).length) ∧ PtR w' A B C D p ∧ CapR p c d a b ∧ DrR w' X Y dd ∧ Okc X cx ∧ Okc Y cy ∧ (∃ g A' B' C' D' c' d' a' b', LocR w' g A' B' C' D' c' d' a' b' (locOf r p)) ∧ Ext w w' := by
  obtain ⟨r, p, hk, hL⟩ := locale_any v0 v1 v2 v3 v4 v5 n h0 h1 h2 h3 h4 h5 hn
  refine ⟨r, p, goodD d0 12 6, hk, good_ok _ _ _, good_intl _ _ _, good_fracl _ _ _, fun w hT hd => ?_⟩
  obtain ⟨dd, hde, hdok, hdi, hdf, hGd⟩ : ∃ dd : Dr, goodD d0 12 6 = dd ∧ DrOk dd ∧ dd.int.length ≤ 100 ∧ dd.frac.length ≤ 100 ∧ ∀ W, Ext w W → Calls Tryz.prog 15 #[.agg ([.bool d0.neg, .slice A0 d0.int.length c0, .bool d0.sep, .slice B0 d0.frac.length e0] : List Value).toArray, .int .i64 12, .int .i64 6] W fun e w' => ∃ X Y cx cy, e = .returned (.agg ([.bool dd.neg, .slice X dd.int.length cx, .bool dd.sep, .slice Y dd.frac.length cy] : List Value).toArray) ∧ DrR w' X Y dd ∧ Okc X cx ∧ Okc Y cy ∧ FrA W.heap.size X ∧ FrA W.heap.size Y ∧ Ext W w' :=
    ⟨_, rfl, good_ok _ _ _, by have := good_intl d0 12 6; omega, by have := good_fracl d0 12 6; omega, fun W hW => ref14_goodF A0 B0 c0 e0 d0 12 6 W (hd.ext hW) hi (by decide) (by decide)⟩
  rw [hde]
  clear hde
  unfold LocaleC at hL
  have HLC := Lib.hid hL
  have HK := Lib.hid hk
  have HGD := Lib.hid hGd
  have HNW : Hid (∀ W, Ext w W → Calls Tryz.prog 43 #[.agg ([.string ⟨r.name.toArray⟩, .string ⟨r.pattern.toArray⟩, .string ⟨r.system.toArray⟩, .string ⟨r.decimal.toArray⟩, .string ⟨r.group.toArray⟩, .string ⟨r.minus.toArray⟩, .string ⟨r.percent.toArray⟩, .string ⟨r.currency.toArray⟩] : List Value).toArray] W fun e w' => ∃ g A B C D c d a b, e = .returned (.tuple #[.pointer (some ⟨g, 0, none⟩), .nilIface]) ∧ LocR w' g A B C D c d a b (locOf r p) ∧ Ext W w') := Lib.hid fun W hW =>
    new_ r p W HK.out.both.pat (by have := HK.out.both.plen; omega) HK.out.both.nm HK.out.both.may (hT.ext hW)
  have HVN : Hid (∀ g A B C D c d a b X Y cx cy W, LocR W g A B C D c d a b (locOf r p) → DrR W X Y dd → Calls Tryz.prog 64 #[.pointer (some ⟨g, 0, none⟩), .agg ([.bool dd.neg, .slice X dd.int.length cx, .bool dd.sep, .slice Y dd.frac.length cy] : List Value).toArray] W fun e w' => ∃ vb E cE F cF, e = .returned (.pointer (some ⟨vb, 0, none⟩)) ∧ VwF W.heap.size w' vb E cE F cF (itemsF (locOf r p) dd) (stopsP (itemsF (locOf r p) dd) (ahead (locOf r p) dd.neg).length) ∧ Ext W w') := Lib.hid fun g A B C D c d a b X Y cx cy W h1 h2 =>
    (view_new g A B C D X Y c d a b cx cy dd r p W h1 HK.out.knd h2 hdok hdi hdf)
  have b1 := (((Box.new w 23 [.int .i64 v0, .int .i64 v1, .int .i64 v2, .int .i64 v3, .int .i64 v4, .int .i64 v5]).alloc (.cells ([.bool d0.neg, .slice A0 d0.int.length c0, .bool d0.sep, .slice B0 d0.frac.length e0] : List Value).toArray 26)).alloc (.cells zero17.toArray 34)).alloc (.cells zeroD.toArray 26)
  have c1 := ((Box.new (w.alloc (.cells ([.int .i64 v0, .int .i64 v1, .int .i64 v2, .int .i64 v3, .int .i64 v4, .int .i64 v5] : List Value).toArray 23)) 26 [.bool d0.neg, .slice A0 d0.int.length c0, .bool d0.sep, .slice B0 d0.frac.length e0]).alloc (.cells zero17.toArray 34)).alloc (.cells zeroD.toArray 26)
  have e1 := (Box.new ((w.alloc (.cells ([.int .i64 v0, .int .i64 v1, .int .i64 v2, .int .i64 v3, .int .i64 v4, .int .i64 v5] : List Value).toArray 23)).alloc (.cells ([.bool d0.neg, .slice A0 d0.int.length c0, .bool d0.sep, .slice B0 d0.frac.length e0] : List Value).toArray 26)) 34 zero17).alloc (.cells zeroD.toArray 26)
  have f1 := Box.new (((w.alloc (.cells ([.int .i64 v0, .int .i64 v1, .int .i64 v2, .int .i64 v3, .int .i64 v4, .int .i64 v5] : List Value).toArray 23)).alloc (.cells ([.bool d0.neg, .slice A0 d0.int.length c0, .bool d0.sep, .slice B0 d0.frac.length e0] : List Value).toArray 26)).alloc (.cells zero17.toArray 34)) 26 zeroD
  have hx1 : Ext w ((((w.alloc (.cells ([.int .i64 v0, .int .i64 v1, .int .i64 v2, .int .i64 v3, .int .i64 v4, .int .i64 v5] : List Value).toArray 23)).alloc (.cells ([.bool d0.neg, .slice A0 d0.int.length c0, .bool d0.sep, .slice B0 d0.frac.length e0] : List Value).toArray 26)).alloc (.cells zero17.toArray 34)).alloc (.cells zeroD.toArray 26)) := Ext.alloc_ (Ext.alloc_ (Ext.alloc_ (Ext.alloc_ (Ext.refl w) _) _) _) _
  have hs1 : (w.alloc (.cells ([.int .i64 v0, .int .i64 v1, .int .i64 v2, .int .i64 v3, .int .i64 v4, .int .i64 v5] : List Value).toArray 23)).heap.size = w.heap.size + 1 := by simp
  have hs2 : ((w.alloc (.cells ([.int .i64 v0, .int .i64 v1, .int .i64 v2, .int .i64 v3, .int .i64 v4, .int .i64 v5] : List Value).toArray 23)).alloc (.cells ([.bool d0.neg, .slice A0 d0.int.length c0, .bool d0.sep, .slice B0 d0.frac.length e0] : List Value).toArray 26)).heap.size = w.heap.size + 1 + 1 := by simp
  have hs3 : (((w.alloc (.cells ([.int .i64 v0, .int .i64 v1, .int .i64 v2, .int .i64 v3, .int .i64 v4, .int .i64 v5] : List Value).toArray 23)).alloc (.cells ([.bool d0.neg, .slice A0 d0.int.length c0, .bool d0.sep, .slice B0 d0.frac.length e0] : List Value).toArray 26)).alloc (.cells zero17.toArray 34)).heap.size = w.heap.size + 1 + 1 + 1 := by simp
  rw [hs1] at c1
  rw [hs2] at e1
  rw [hs3] at f1
  have HRG := Lib.hid b1.range
  have HRD := Lib.hid c1.range
  have HE1 := Lib.hid e1
  have HF1 := Lib.hid f1
  have HX1 := Lib.hid hx1
  clear hk hL b1 c1 e1 f1 hs1 hs2 hs3 hx1 hT h0 h1 h2 h3 h4 h5 hn hd hGd hi
  go_enter Tryz.func30, Tryz.ntmps30
  go_upto_region 1 with fail
  change Code.wp _ _ _ _ ((((w.alloc (.cells ([.int .i64 v0, .int .i64 v1, .int .i64 v2, .int .i64 v3, .int .i64 v4, .int .i64 v5] : List Value).toArray 23)).alloc (.cells ([.bool d0.neg, .slice A0 d0.int.length c0, .bool d0.sep, .slice B0 d0.frac.length e0] : List Value).toArray 26)).alloc (.cells zero17.toArray 34)).alloc (.cells zeroD.toArray 26))
  generalize (((w.alloc (.cells ([.int .i64 v0, .int .i64 v1, .int .i64 v2, .int .i64 v3, .int .i64 v4, .int .i64 v5] : List Value).toArray 23)).alloc (.cells ([.bool d0.neg, .slice A0 d0.int.length c0, .bool d0.sep, .slice B0 d0.frac.length e0] : List Value).toArray 26)).alloc (.cells zero17.toArray 34)).alloc (.cells zeroD.toArray 26) = w1 at *
  go_upto_region 2 with (first
    | (refine wpList_load_mid rfl 23 (.tmp 3) rfl w.heap.size 0 rfl [.int .i64 v0, .int .i64 v1, .int .i64 v2, .int .i64 v3, .int .i64 v4, .int .i64 v5] _ HRG.out Tryz.underlying23 rfl infoG ?_)
    | (go_at_call 48; with_reducible refine (HLC.out _).mono ?_; rintro e w2 ⟨A, B, C, D, c, d, a, b, rfl, hpt, hcap, hx2⟩)
    | (refine wpList_store_fresh rfl 34 (.tmp 9) (.tmp 15) rfl (refLV A B C D c d a b r p).toArray 34 _ rfl rfl infoRL rfl (refL_one A B C D c d a b r p) ?_))
  have hb3 := Box.new w2 34 (refLV A B C D c d a b r p)
  have hx3 : Ext w2 (w2.alloc (.cells (refLV A B C D c d a b r p).toArray 34)) := Ext.alloc_ (Ext.refl _) _
  have HPT := Lib.hid (hpt.ext hx3)
  have HX3 := Lib.hid (HX1.out.trans (hx2.trans hx3))
  have HRD3 := Lib.hid (Ext.range_ (hx2.trans hx3) HRD.out)
  have HE3 := Lib.hid (HE1.out.ext (hx2.trans hx3))
  have HF3 := Lib.hid (HF1.out.ext (hx2.trans hx3))
  have HLBN : Hid (w.heap.size + 1 + 1 + 1 < w2.heap.size) := Lib.hid (HF1.out.ext hx2).lt
  generalize w2.alloc (.cells (refLV A B C D c d a b r p).toArray 34) = w3 at *
  generalize w2.heap.size = lb at *
  have HB3 := Lib.hid hb3
  clear hb3 hx2 hx3 hpt HRG HRD HLC HE1 HF1
  go_upto_region 3 with (first
    | (refine wpList_load_mid rfl 26 (.tmp 5) rfl (w.heap.size + 1) 0 rfl [.bool d0.neg, .slice A0 d0.int.length c0, .bool d0.sep, .slice B0 d0.frac.length e0] _ HRD3.out Tryz.underlying26 rfl infoD14 ?_)
    | (go_at_call 15; with_reducible refine (HGD.out _ HX3.out).mono ?_; rintro e w4 ⟨X, Y, cx, cy, rfl, hdr, oX, oY, fX, fY, hx4⟩)
    | (refine wpList_store_fresh rfl 26 (.tmp 10) (.tmp 17) rfl ([.bool dd.neg, .slice X dd.int.length cx, .bool dd.sep, .slice Y dd.frac.length cy] : List Value).toArray 26 _ rfl rfl infoD14 rfl (by simp [Value.oneCell']) ?_))
  have hb5 := Box.new w4 26 [.bool dd.neg, .slice X dd.int.length cx, .bool dd.sep, .slice Y dd.frac.length cy]
  have hx5 : Ext w4 (w4.alloc (.cells ([.bool dd.neg, .slice X dd.int.length cx, .bool dd.sep, .slice Y dd.frac.length cy] : List Value).toArray 26)) := Ext.alloc_ (Ext.refl _) _
  have HX5 := Lib.hid (HX3.out.trans (hx4.trans hx5))
  have HPT5 := Lib.hid (HPT.out.ext (hx4.trans hx5))
  have HB5 := Lib.hid (HB3.out.ext (hx4.trans hx5))
  have HE5 := Lib.hid (HE3.out.ext (hx4.trans hx5))
  have HF5 := Lib.hid (HF3.out.ext (hx4.trans hx5))
  have HDR5 := Lib.hid (hdr.ext hx5)
  have HFX : Hid (FrA (w.heap.size + 1 + 1 + 1 + 1) X) := Lib.hid fun x hx => by have := fX x hx; have := HF3.out.lt; omega
  have HFY : Hid (FrA (w.heap.size + 1 + 1 + 1 + 1) Y) := Lib.hid fun x hx => by have := fY x hx; have := HF3.out.lt; omega
  have HDBN : Hid (w.heap.size + 1 + 1 + 1 < w4.heap.size) := Lib.hid (HF3.out.ext hx4).lt
  generalize w4.alloc (.cells ([.bool dd.neg, .slice X dd.int.length cx, .bool dd.sep, .slice Y dd.frac.length cy] : List Value).toArray 26) = w5 at *
  generalize w4.heap.size = db at *
  have HDB := Lib.hid hb5
  have HRR5 : Hid (w5.rangeAt lb 0 [.string ⟨r.name.toArray⟩, .string ⟨r.pattern.toArray⟩, .string ⟨r.system.toArray⟩, .string ⟨r.decimal.toArray⟩, .string ⟨r.group.toArray⟩, .string ⟨r.minus.toArray⟩, .string ⟨r.percent.toArray⟩, .string ⟨r.currency.toArray⟩]) := Lib.hid (refL_rec HB5.out.range)
  clear hb5 hx4 hx5 hdr fX fY HPT HB3 HE3 HF3 HRD3 HGD
  go_upto_region 6 with (first
    | (refine wpList_load_mid rfl 29 (.tmp 19) rfl lb 0 rfl [.string ⟨r.name.toArray⟩, .string ⟨r.pattern.toArray⟩, .string ⟨r.system.toArray⟩, .string ⟨r.decimal.toArray⟩, .string ⟨r.group.toArray⟩, .string ⟨r.minus.toArray⟩, .string ⟨r.percent.toArray⟩, .string ⟨r.currency.toArray⟩] _ HRR5.out Tryz.underlying29 rfl infoR ?_)
    | (go_at_call 43; with_reducible refine (HNW.out _ HX5.out).mono ?_; rintro e w6 ⟨g, A', B', C', D', c', d', a', b', rfl, hLR, hx6⟩))
  have HBF : Hid (BegF w (w.heap.size + 1 + 1) (w.heap.size + 1 + 1 + 1) lb db g X Y) := Lib.hid ⟨by omega, by omega, HLBN.out, HDBN.out, HFX.out, HFY.out⟩
  have hS0 : BegS w (w.heap.size + 1 + 1) (w.heap.size + 1 + 1 + 1) lb db g A' B' C' D' c' d' a' b' A B C D c d a b X Y cx cy r p dd w6 := ⟨HX5.out.trans hx6, hLR, HPT5.out.ext hx6, HDR5.out.ext hx6, (HB5.out.ext hx6).range, (HDB.out.ext hx6).range⟩
  have g7 := HE5.out.ext hx6
  have g8 := HF5.out.ext hx6
  have HB8 : Hid (w.heap.size + 1 + 1 + 1 < w6.heap.size) := Lib.hid g8.lt
  have HCAP := Lib.hid hcap
  have HOX := Lib.hid oX
  have HOY := Lib.hid oY
  clear hLR hx6 HRR5 HNW HX5 HPT5 HB5 HDB HDR5 HE5 HF5 hcap oX oY HLBN HDBN HFX HFY
  generalize w.heap.size + 1 + 1 = b7 at *
  generalize hb8e : b7 + 1 = b8 at *
  have h78 : b7 < b8 := by omega
  clear hb8e
  have hS := hS0
  clear hS0
  generalize hLL : itemsF (locOf r p) dd = LL at *
  generalize hSS : stopsP LL (ahead (locOf r p) dd.neg).length = SS at *
  have HLL := Lib.hid hLL
  have HSS := Lib.hid hSS
  clear hLL hSS
  have g7 := g7.drew
  have g8 := g8.drew
  have hS := hS.call (Ext.drew_ (Ext.refl w6))
  refine wp_region_noPanic ?_
  refine wp_region_held_drew (S := BegS w b7 b8 lb db g A' B' C' D' c' d' a' b' A B C D c d a b X Y cx cy r p dd) (by kernel_rfl) ?_ (fun hHeld => ?_)
  · exact hS
  refine take_ 0 (v := ?_) rfl (by kernel_rfl) (by kernel_rfl) (by kernel_rfl) (fun _ _ _ h => h) hHeld (by rfl) ?_ ?_
  rotate_left 1
  · (intro w hSw; (try dsimp only at hSw); go_simp; all_goals with_reducible rfl)
  try simp only [Act.put, List.setIfInBounds_toArray, List.set_cons_zero, List.set_cons_succ]
  refine takeRow_ (cs := [.bool dd.neg, .slice X dd.int.length cx, .bool dd.sep, .slice Y dd.frac.length cy]) 1 rfl (by kernel_rfl) (by kernel_rfl) (by kernel_rfl) (fun _ _ _ h => h) hHeld (by rfl) 26 (.tmp 10) rfl db 0 rfl _ (fun _ h => h.rd) Tryz.underlying26 rfl infoD14 ?_
  try simp only [Act.put, List.setIfInBounds_toArray, List.set_cons_zero, List.set_cons_succ]
  refine takeRow_ (cs := [.string ⟨r.name.toArray⟩, .string ⟨r.pattern.toArray⟩, .string ⟨r.system.toArray⟩, .string ⟨r.decimal.toArray⟩, .string ⟨r.group.toArray⟩, .string ⟨r.minus.toArray⟩, .string ⟨r.percent.toArray⟩, .string ⟨r.currency.toArray⟩, .slice A p.pre.length c, .slice B p.suf.length d, .slice C p.npre.length a, .slice D p.nsuf.length b, .int .i64 p.num.prim, .int .i64 p.num.sec, .int .i64 p.num.minInt, .int .i64 p.num.minFrac, .int .i64 p.num.maxFrac]) 3 rfl (by kernel_rfl) (by kernel_rfl) (by kernel_rfl) (fun _ _ _ h => h) hHeld (by rfl) 34 (.tmp 9) rfl lb 0 rfl _ (fun _ h => h.rl) Tryz.underlying34 rfl infoRL ?_
  try simp only [Act.put, List.setIfInBounds_toArray, List.set_cons_zero, List.set_cons_succ]
  refine takeRow_ (cs := [.bool dd.neg, .slice X dd.int.length cx, .bool dd.sep, .slice Y dd.frac.length cy]) 4 rfl (by kernel_rfl) (by kernel_rfl) (by kernel_rfl) (fun _ _ _ h => h) hHeld (by rfl) 26 (.tmp 10) rfl db 0 rfl _ (fun _ h => h.rd) Tryz.underlying26 rfl infoD14 ?_
  try simp only [Act.put, List.setIfInBounds_toArray, List.set_cons_zero, List.set_cons_succ]
  refine only_ 2 rfl (by kernel_rfl) (fun K1 hK1 => ?_)
  go_simp
  go_at_call 64
  refine (HVN.out _ _ _ _ _ _ _ _ _ _ _ _ _ _ hHeld.loc hHeld.dr).mono ?_
  rintro e w7 ⟨vb, E, cE, F, cF, rfl, hV0, hx7⟩
  have hV := hV0.weaken (B' := b8 + 1) g8.lt
  have g7 := g7.ext hx7
  have g8 := g8.ext hx7
  refine hK1.out _ _ (hHeld.call hx7) (fun hHeld => ?_)
  clear hK1
  try simp only [Act.put, List.setIfInBounds_toArray, List.set_cons_zero, List.set_cons_succ]
  refine take_ 5 (v := ?_) rfl (by kernel_rfl) (by kernel_rfl) (by kernel_rfl) (fun _ _ _ h => h) hHeld (by rfl) ?_ ?_
  rotate_left 1
  · (intro w hSw; (try dsimp only at hSw); go_simp; all_goals with_reducible rfl)
  try simp only [Act.put, List.setIfInBounds_toArray, List.set_cons_zero, List.set_cons_succ]
  refine only_ 6 rfl (by kernel_rfl) (fun K1 hK1 => ?_)
  refine step_row rfl 34 (.tmp 7) (.tmp 31) rfl b7 ([.string ⟨r.name.toArray⟩, .string ⟨r.pattern.toArray⟩, .string ⟨r.system.toArray⟩, .string ⟨r.decimal.toArray⟩, .string ⟨r.group.toArray⟩, .string ⟨r.minus.toArray⟩, .string ⟨r.percent.toArray⟩, .string ⟨r.currency.toArray⟩, .slice A p.pre.length c, .slice B p.suf.length d, .slice C p.npre.length a, .slice D p.nsuf.length b, .int .i64 p.num.prim, .int .i64 p.num.sec, .int .i64 p.num.minInt, .int .i64 p.num.minFrac, .int .i64 p.num.maxFrac] : List Value).toArray (by rfl) (by rfl) _ _ g7 infoRL rfl (refL_one A B C D c d a b r p) ?_
  have hn7 := hHeld.set7 HBF.out g7 ([.string ⟨r.name.toArray⟩, .string ⟨r.pattern.toArray⟩, .string ⟨r.system.toArray⟩, .string ⟨r.decimal.toArray⟩, .string ⟨r.group.toArray⟩, .string ⟨r.minus.toArray⟩, .string ⟨r.percent.toArray⟩, .string ⟨r.currency.toArray⟩, .slice A p.pre.length c, .slice B p.suf.length d, .slice C p.npre.length a, .slice D p.nsuf.length b, .int .i64 p.num.prim, .int .i64 p.num.sec, .int .i64 p.num.minInt, .int .i64 p.num.minFrac, .int .i64 p.num.maxFrac] : List Value).toArray
  have g8 := g8.other (k := b7) (by omega) ([.string ⟨r.name.toArray⟩, .string ⟨r.pattern.toArray⟩, .string ⟨r.system.toArray⟩, .string ⟨r.decimal.toArray⟩, .string ⟨r.group.toArray⟩, .string ⟨r.minus.toArray⟩, .string ⟨r.percent.toArray⟩, .string ⟨r.currency.toArray⟩, .slice A p.pre.length c, .slice B p.suf.length d, .slice C p.npre.length a, .slice D p.nsuf.length b, .int .i64 p.num.prim, .int .i64 p.num.sec, .int .i64 p.num.minInt, .int .i64 p.num.minFrac, .int .i64 p.num.maxFrac] : List Value).toArray
  have g7 := g7.set ([.string ⟨r.name.toArray⟩, .string ⟨r.pattern.toArray⟩, .string ⟨r.system.toArray⟩, .string ⟨r.decimal.toArray⟩, .string ⟨r.group.toArray⟩, .string ⟨r.minus.toArray⟩, .string ⟨r.percent.toArray⟩, .string ⟨r.currency.toArray⟩, .slice A p.pre.length c, .slice B p.suf.length d, .slice C p.npre.length a, .slice D p.nsuf.length b, .int .i64 p.num.prim, .int .i64 p.num.sec, .int .i64 p.num.minInt, .int .i64 p.num.minFrac, .int .i64 p.num.maxFrac] : List Value).toArray
  try have hV := hV.set (k := b7) (by omega) ([.string ⟨r.name.toArray⟩, .string ⟨r.pattern.toArray⟩, .string ⟨r.system.toArray⟩, .string ⟨r.decimal.toArray⟩, .string ⟨r.group.toArray⟩, .string ⟨r.minus.toArray⟩, .string ⟨r.percent.toArray⟩, .string ⟨r.currency.toArray⟩, .slice A p.pre.length c, .slice B p.suf.length d, .slice C p.npre.length a, .slice D p.nsuf.length b, .int .i64 p.num.prim, .int .i64 p.num.sec, .int .i64 p.num.minInt, .int .i64 p.num.minFrac, .int .i64 p.num.maxFrac] : List Value).toArray
  refine hK1.out _ _ hn7 (fun hHeld => ?_)
  clear hK1
  try simp only [Act.put, List.setIfInBounds_toArray, List.set_cons_zero, List.set_cons_succ]
  refine only_ 7 rfl (by kernel_rfl) (fun K1 hK1 => ?_)
  refine step_row rfl 26 (.tmp 8) (.tmp 32) rfl b8 ([.bool dd.neg, .slice X dd.int.length cx, .bool dd.sep, .slice Y dd.frac.length cy] : List Value).toArray (by rfl) (by rfl) _ _ g8 infoD14 rfl (by simp [Value.oneCell']) ?_
  have hn8 := hHeld.set8 HBF.out g8 ([.bool dd.neg, .slice X dd.int.length cx, .bool dd.sep, .slice Y dd.frac.length cy] : List Value).toArray
  have g7 := g7.other (k := b8) (by omega) ([.bool dd.neg, .slice X dd.int.length cx, .bool dd.sep, .slice Y dd.frac.length cy] : List Value).toArray
  have g8 := g8.set ([.bool dd.neg, .slice X dd.int.length cx, .bool dd.sep, .slice Y dd.frac.length cy] : List Value).toArray
  try have hV := hV.set (k := b8) (by omega) ([.bool dd.neg, .slice X dd.int.length cx, .bool dd.sep, .slice Y dd.frac.length cy] : List Value).toArray
  refine hK1.out _ _ hn8 (fun hHeld => ?_)
  clear hK1
  try simp only [Act.put, List.setIfInBounds_toArray, List.set_cons_zero, List.set_cons_succ]
  refine wpAnyH_done (by kernel_rfl) ?_ _
  refine NoPanic.normal ?_
  go_wp2
  refine bodyPost_ret (v := .tuple #[.pointer (some ⟨vb, 0, none⟩), .agg ([.string ⟨r.name.toArray⟩, .string ⟨r.pattern.toArray⟩, .string ⟨r.system.toArray⟩, .string ⟨r.decimal.toArray⟩, .string ⟨r.group.toArray⟩, .string ⟨r.minus.toArray⟩, .string ⟨r.percent.toArray⟩, .string ⟨r.currency.toArray⟩, .slice A p.pre.length c, .slice B p.suf.length d, .slice C p.npre.length a, .slice D p.nsuf.length b, .int .i64 p.num.prim, .int .i64 p.num.sec, .int .i64 p.num.minInt, .int .i64 p.num.minFrac, .int .i64 p.num.maxFrac] : List Value).toArray, .agg ([.bool dd.neg, .slice X dd.int.length cx, .bool dd.sep, .slice Y dd.frac.length cy] : List Value).toArray]) (results_three (p := 6) (q := 7) (s := 8) rfl _ _ b7 b8 _ _ rfl rfl g7 g8 Tryz.underlying34 Tryz.underlying26 infoRL infoD14) rfl ⟨vb, E, cE, F, cF, A, B, C, D, c, d, a, b, X, Y, cx, cy, rfl, ?_, hHeld.pt, HCAP.out, hHeld.dr, HOX.out, HOY.out, ⟨g, A', B', C', D', c', d', a', b', hHeld.loc⟩, hHeld.ext⟩
  rw [HLL.out, HSS.out]
  exact hV.vw
end Go.Proofs.YthoicieckodneaaGreatDoor.Loc
