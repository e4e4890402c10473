/- Walks: the document's locale: New, text, Affixes, parts, Around. -/
import Derived.Test.YtdkjkbbibdppoaaGreatDoorLBoth
import Derived.Test.YtdkjkbbibdppoaaGreatDoorLReg2
import Derived.Test.YtdkjkbbibdppoaaGreatDoorJPat4
import Derived.Deep.RegionHeld3
namespace Go.Proofs.YtdkjkbbibdppoaaGreatDoor.Loc
open Go.RowKit Utf All Small Strs Build EncC Pat Cls Dec Go.Proofs.YtdkjkbbibdppoaaGreatDoor.Sys
set_option linter.unusedVariables false
set_option linter.unusedSimpArgs false

def refLV (A B C D : Option Addr) (c d a b : Nat) (r : Rec) (p : Pt) : List Value := recV r ++ patC (.slice A p.pre.length c) (.slice B p.suf.length d) (.slice C p.npre.length a) (.slice D p.nsuf.length b) p.num
def zero17 : List Value := [sV [], sV [], sV [], sV [], sV [], sV [], sV [], sV [], .slice none 0 0, .slice none 0 0, .slice none 0 0, .slice none 0 0, .int .i64 0, .int .i64 0, .int .i64 0, .int .i64 0, .int .i64 0]
def isInt : Value → Bool
  | .int _ _ => true
  | _ => false
def isStr : Value → Bool
  | .string _ => true
  | _ => false
theorem zero17_no : ∀ k : Fin 17, ((zero17[k.val]?.any isInt) && (zero17[k.val + 1]?.any isStr)) = false := by decide
theorem pcs_setRow {w : World} {b : Nat} {T : TypeId} {A : Option Addr} {q : List Pc} (hb : Box w b T zero17) (hr : Row w A (pcsV q)) (ds : Array Value) : Row (w.setRow b ds) A (pcsV q) := by
  rcases hr with h | ⟨b', off, rfl, hc⟩
  · exact .inl h
  · cases q with
    | nil => exact .inl rfl
    | cons x r =>
      have hne : b' ≠ b := by
        intro e
        subst e
        have h0 := hc 0 (.int .i64 x.1) rfl
        have h1 := hc 1 (.string ⟨x.2.toArray⟩) rfl
        rw [cell_of_row w b' _ _ T (0, 0) hb, List.getElem?_toArray] at h0 h1
        rw [Nat.add_zero] at h0
        have hlt : off < 17 := (List.getElem?_eq_some_iff.1 h0).1
        have hk := zero17_no ⟨off, hlt⟩
        simp only at hk
        rw [h0, h1] at hk
        simp [isInt, isStr] at hk
      exact .inr ⟨b', off, rfl, fun j v hv => (World.cell?_of_block (setRow_other w b b' ds hne)).trans (hc j v hv)⟩
theorem pt_setRow {w : World} {b : Nat} {T : TypeId} {A B C D : Option Addr} {p : Pt} (hb : Box w b T zero17) (h : PtR w A B C D p) (ds : Array Value) : PtR (w.setRow b ds) A B C D p :=
  ⟨pcs_setRow hb h.1 ds, pcs_setRow hb h.2.1 ds, pcs_setRow hb h.2.2.1 ds, pcs_setRow hb h.2.2.2 ds⟩
theorem infoRL : (Tryz.prog.info? 61).map (·.size) = some 17 := by kernel_rfl
theorem refL_one (A B C D : Option Addr) (c d a b : Nat) (r : Rec) (p : Pt) : (refLV A B C D c d a b r p).toArray.all (·.oneCell') = true := by simp [refLV, recV, sV, patC, Value.oneCell']
set_option maxHeartbeats 4000000 in
set_option maxRecDepth 100000 in
theorem ref_new (r : Rec) (p : Pt) (w : World) (h : Both r p) :
    Calls Tryz.prog 22 #[.agg (recV r).toArray] w fun e w' => ∃ A B C D c d a b, e = .returned (.agg (refLV A B C D c d a b r p).toArray) ∧ PtR w' A B C D p ∧ CapR p c d a b ∧ Ext w w' := by
  have b1 := (Box.new w 45 (recV r)).alloc (.cells zero17.toArray 61)
  have c1 := Box.new (w.alloc (.cells (recV r).toArray 45)) 61 zero17
  have hx1 : Ext w ((w.alloc (.cells (recV r).toArray 45)).alloc (.cells zero17.toArray 61)) := Ext.alloc_ (Ext.alloc_ (Ext.refl w) _) _
  have hs1 : (w.alloc (.cells (recV r).toArray 45)).heap.size = w.heap.size + 1 := by simp
  rw [hs1] at c1
  clear hs1
  have HP := Lib.hid (fun W => refP_ok h.ref (by have := h.plen; omega) W)
  have k1 := b1.cell (j := 1) (v := .string ⟨r.pattern.toArray⟩) rfl
  have HB1 := Lib.hid b1
  have HC1 := Lib.hid c1
  have HX1 := Lib.hid hx1
  clear b1 c1 hx1 h
  go_enter Tryz.func22, Tryz.ntmps22
  go_upto_region 1 with fail
  change Code.wp _ _ _ _ ((w.alloc (.cells (recV r).toArray 45)).alloc (.cells zero17.toArray 61))
  generalize (w.alloc (.cells (recV r).toArray 45)).alloc (.cells zero17.toArray 61) = w1 at *
  go_upto_region 2 with (first
    | (go_at_call 13; refine (HP.out _).mono ?_; rintro e w3 ⟨A, c, B, d, C, a, D, b, rfl, hpt, hcap, hx⟩)
    | (refine wpList_store_fresh rfl 35 (.tmp 3) (.tmp 9) rfl (patC (.slice A p.pre.length c) (.slice B p.suf.length d) (.slice C p.npre.length a) (.slice D p.nsuf.length b) p.num).toArray 35 _ rfl rfl infoP rfl (by simp [patC, Value.oneCell']) ?_))
  have hb2 := HB1.out.ext hx
  have hb3 := hb2.alloc (.cells (patC (.slice A p.pre.length c) (.slice B p.suf.length d) (.slice C p.npre.length a) (.slice D p.nsuf.length b) p.num).toArray 35)
  have hc3 := (HC1.out.ext hx).alloc (.cells (patC (.slice A p.pre.length c) (.slice B p.suf.length d) (.slice C p.npre.length a) (.slice D p.nsuf.length b) p.num).toArray 35)
  have hd3 := Box.new w3 35 (patC (.slice A p.pre.length c) (.slice B p.suf.length d) (.slice C p.npre.length a) (.slice D p.nsuf.length b) p.num)
  have hx4 : Ext w3 (w3.alloc (.cells (patC (.slice A p.pre.length c) (.slice B p.suf.length d) (.slice C p.npre.length a) (.slice D p.nsuf.length b) p.num).toArray 35)) := Ext.alloc_ (Ext.refl _) _
  have hpt4 := hpt.ext hx4
  have hr1 : (w3.alloc (.cells (patC (.slice A p.pre.length c) (.slice B p.suf.length d) (.slice C p.npre.length a) (.slice D p.nsuf.length b) p.num).toArray 35)).rangeAt w.heap.size 0 [.string ⟨r.name.toArray⟩, .string ⟨r.pattern.toArray⟩, .string ⟨r.system.toArray⟩, .string ⟨r.decimal.toArray⟩, .string ⟨r.group.toArray⟩, .string ⟨r.minus.toArray⟩, .string ⟨r.percent.toArray⟩, .string ⟨r.currency.toArray⟩] := hb3.range
  have hr2 : (w3.alloc (.cells (patC (.slice A p.pre.length c) (.slice B p.suf.length d) (.slice C p.npre.length a) (.slice D p.nsuf.length b) p.num).toArray 35)).rangeAt w3.heap.size 0 [.slice A p.pre.length c, .slice B p.suf.length d, .slice C p.npre.length a, .slice D p.nsuf.length b, .int .i64 p.num.prim, .int .i64 p.num.sec, .int .i64 p.num.minInt, .int .i64 p.num.minFrac, .int .i64 p.num.maxFrac] := hd3.range
  have HR1 := Lib.hid hr1
  have HR2 := Lib.hid hr2
  have HC3 := Lib.hid hc3
  have HX4 := Lib.hid ((HX1.out.trans hx).trans hx4)
  have HPT4 := Lib.hid hpt4
  clear hb2 hb3 hc3 hd3 hx4 hpt4 hr1 hr2 hpt hx HB1 HC1 k1
  generalize w3.alloc (.cells (patC (.slice A p.pre.length c) (.slice B p.suf.length d) (.slice C p.npre.length a) (.slice D p.nsuf.length b) p.num).toArray 35) = w4 at *
  go_wp2_with (first
    | (refine wpList_load_mid rfl 45 (.tmp 1) rfl w.heap.size 0 rfl _ _ HR1.out Tryz.underlying45 rfl infoR ?_)
    | (refine wpList_load_mid rfl 35 (.tmp 3) rfl w3.heap.size 0 rfl _ _ HR2.out Tryz.underlying35 rfl infoP ?_)
    | (refine wpList_store_row rfl 61 (.tmp 2) (.tmp 13) rfl (w.heap.size + 1) (refLV A B C D c d a b r p).toArray rfl rfl _ _ HC3.out infoRL rfl (refL_one A B C D c d a b r p) ?_))
  have hb5 := HC3.out.set (refLV A B C D c d a b r p).toArray
  have hle : w.heap.size ≤ w.heap.size + 1 := Nat.le_succ _
  refine bodyPost_ret (v := .agg (refLV A B C D c d a b r p).toArray) (results_cell_row rfl _ _ (w.heap.size + 1) _ _ _ _ rfl hb5 Tryz.underlying61 rfl infoRL) rfl ⟨A, B, C, D, c, d, a, b, rfl, pt_setRow HC3.out HPT4.out _, hcap, Ext.setRow HX4.out hle _⟩
theorem txt_eq (r : Rec) (p : Pt) (q : List Pc) : txtL (locOf r p) q = resF r.currency r.percent [] q := rfl
set_option maxHeartbeats 4000000 in
set_option maxRecDepth 100000 in
theorem ref_text (X : Option Addr) (n k : Nat) (q : List Pc) (r : Rec) (w : World) (hX : Row w X (pcsV q)) (hq : q.length = n) (hl : n ≤ 1000) (hc : r.currency.length ≤ 1000) (hp : r.percent.length ≤ 1000) (hk : ∀ x ∈ q, 0 ≤ x.1 ∧ x.1 < 4 ∧ x.2.length ≤ 6) :
    Calls Tryz.prog 88 #[.agg (recV r).toArray, .slice X n k] w fun e w' => e = .returned (.string ⟨(resF r.currency r.percent [] q).toArray⟩) ∧ Ext w w' := by
  have b1 := Box.new w 45 (recV r)
  have hx1 : Ext w (w.alloc (.cells (recV r).toArray 45)) := Ext.alloc_ (Ext.refl w) _
  have k7 := b1.cell (j := 7) (v := .string ⟨r.currency.toArray⟩) rfl
  have k6 := b1.cell (j := 6) (v := .string ⟨r.percent.toArray⟩) rfl
  have HR : Hid (∀ W, Ext w W → Calls Tryz.prog 140 #[.slice X n k, .string ⟨r.currency.toArray⟩, .string ⟨r.percent.toArray⟩, .string ⟨#[]⟩] W fun e w' => e = .returned (.string ⟨(resF r.currency r.percent [] q).toArray⟩) ∧ Ext W w') := Lib.hid fun W hW => by
    subst hq
    exact resolve_ref X k r.currency r.percent [] q W (hX.below hW (Nat.le_refl _)) hl (by omega) (by omega) (by simp) hk
  have HX1 := Lib.hid hx1
  clear hX hk b1 hx1
  generalize resF r.currency r.percent [] q = t at *
  go_enter Tryz.func88, Tryz.ntmps88
  go_upto_region 1 with fail
  change Code.wp _ _ _ _ (w.alloc (.cells (recV r).toArray 45))
  generalize w.alloc (.cells (recV r).toArray 45) = w1 at *
  generalize (⟨r.currency.toArray⟩ : ByteArray) = s1 at *
  generalize (⟨r.percent.toArray⟩ : ByteArray) = s2 at *
  go_wp2_with (go_at_call 140; with_reducible refine (HR.out _ HX1.out).mono ?_; rintro e w2 ⟨rfl, hx2⟩)
  go_ret
  exact ⟨rfl, HX1.out.trans hx2⟩
set_option maxHeartbeats 4000000 in
set_option maxRecDepth 100000 in
theorem ref_affixes (A B C D : Option Addr) (c d a b : Nat) (r : Rec) (p : Pt) (w : World) :
    Calls Tryz.prog 87 #[.agg (patC (.slice A p.pre.length c) (.slice B p.suf.length d) (.slice C p.npre.length a) (.slice D p.nsuf.length b) p.num).toArray] w fun e w' => ∃ E, e = .returned (.slice E 4 4) ∧ Row w' E (affV A B C D c d a b (locOf r p)) ∧ Ext w w' := by
  have HE : Hid (affV A B C D c d a b (locOf r p) = [.slice A p.pre.length c, .slice B p.suf.length d, .slice C p.npre.length a, .slice D p.nsuf.length b]) := Lib.hid rfl
  have b1 := Box.new w 35 (patC (.slice A p.pre.length c) (.slice B p.suf.length d) (.slice C p.npre.length a) (.slice D p.nsuf.length b) p.num)
  have hx1 : Ext w (w.alloc (.cells (patC (.slice A p.pre.length c) (.slice B p.suf.length d) (.slice C p.npre.length a) (.slice D p.nsuf.length b) p.num).toArray 35)) := Ext.alloc_ (Ext.refl w) _
  have k0 := b1.cell (j := 0) (v := .slice A p.pre.length c) rfl
  have k1 := b1.cell (j := 1) (v := .slice B p.suf.length d) rfl
  have k2 := b1.cell (j := 2) (v := .slice C p.npre.length a) rfl
  have k3 := b1.cell (j := 3) (v := .slice D p.nsuf.length b) rfl
  clear b1
  go_enter Tryz.func87, Tryz.ntmps87
  go_upto_region 1 with fail
  change Code.wp _ _ _ _ (w.alloc (.cells (patC (.slice A p.pre.length c) (.slice B p.suf.length d) (.slice C p.npre.length a) (.slice D p.nsuf.length b) p.num).toArray 35))
  generalize w.alloc (.cells (patC (.slice A p.pre.length c) (.slice B p.suf.length d) (.slice C p.npre.length a) (.slice D p.nsuf.length b) p.num).toArray 35) = w1 at *
  generalize p.pre.length = n1 at *
  generalize p.suf.length = n2 at *
  generalize p.npre.length = n3 at *
  generalize p.nsuf.length = n4 at *
  have hx2 := Ext.alloc_ hx1 (.cells ([.slice A n1 c, .slice B n2 d, .slice C n3 a, .slice D n4 b] : List Value).toArray 33)
  have hn := (Box.new w1 33 [.slice A n1 c, .slice B n2 d, .slice C n3 a, .slice D n4 b]).row
  go_wp2
  go_ret
  exact ⟨some ⟨w1.heap.size, 0, none⟩, rfl, by rw [HE.out]; exact hn, hx2⟩
theorem ei_t : EI 57 64 2 24 := ei_of (z := .agg #[.bool false, .string ⟨#[]⟩]) Tryz.underlying57 (by kernel_rfl) rfl (by decide)
theorem stR_bd (l : Loc) (hb : LocB l) : ∀ (q : List Pc), (∀ x ∈ q, x.2.length ≤ 1000) → (stR l q).1.length ≤ 2 * q.length ∧ (stR l q).2.length ≤ 1000 * q.length := by
  have key : ∀ (q : List Pc) (st : List Prt × List UInt8), (∀ x ∈ q, x.2.length ≤ 1000) → (q.foldl (stepR l) st).1.length ≤ st.1.length + 2 * q.length ∧ (q.foldl (stepR l) st).2.length ≤ st.2.length + 1000 * q.length := by
    intro q
    induction q with
    | nil => intro st _; simp
    | cons x r ih =>
      intro st hx
      have h1 := ih (stepR l st x) (fun y hy => hx y (List.mem_cons_of_mem _ hy))
      have h3 := txt_one l hb x (hx x List.mem_cons_self)
      have h2 : (stepR l st x).1.length ≤ st.1.length + 2 ∧ (stepR l st x).2.length ≤ st.2.length + 1000 := by
        unfold stepR
        split
        · split <;> simp
        · simp; omega
      simp only [List.foldl_cons, List.length_cons]; omega
  intro q hx
  have := key q ([], []) hx
  simpa [stR] using this
/-- a locale's block: its record, its pattern -/
theorem refL_rec {W : World} {lb : Nat} {A B C D : Option Addr} {c d a b : Nat} {r : Rec} {p : Pt} (h : W.rangeAt lb 0 (refLV A B C D c d a b r p)) : W.rangeAt lb 0 (recV r) := fun j v hv => h j v (by
  unfold refLV; rw [List.getElem?_append_left (List.getElem?_eq_some_iff.1 hv).1]; exact hv)
theorem refL_pat {W : World} {lb : Nat} {A B C D : Option Addr} {c d a b : Nat} {r : Rec} {p : Pt} (h : W.rangeAt lb 0 (refLV A B C D c d a b r p)) : W.rangeAt lb 8 (patC (.slice A p.pre.length c) (.slice B p.suf.length d) (.slice C p.npre.length a) (.slice D p.nsuf.length b) p.num) := fun j v hv => by
  have := h (8 + j) v (by unfold refLV; rw [List.getElem?_append_right (by simp [recV]), show 8 + j - (recV r).length = j by simp [recV]]; exact hv)
  rwa [Nat.zero_add] at this
end Go.Proofs.YtdkjkbbibdppoaaGreatDoor.Loc
