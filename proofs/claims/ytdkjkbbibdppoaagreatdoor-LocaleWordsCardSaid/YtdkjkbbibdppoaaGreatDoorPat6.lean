/- Patterns of numbers: the walk of half. -/
import Derived.Test.YtdkjkbbibdppoaaGreatDoorPat5
import Derived.Deep.DeepCutAuto
import Derived.Deep.RegionWith
import Derived.Deep.RegionHeld3
namespace Go.Proofs.YtdkjkbbibdppoaaGreatDoor.Pat
open Go.RowKit Utf All Small Strs
set_option linter.unusedVariables false
set_option linter.unusedSimpArgs false

/-- where the number begins, its pieces, what stands behind -/
def fromN (l : List Pc) : Nat := (idxF (isK 4) l).toNat
def runOf (l : List Pc) : List Pc := (l.drop (fromN l)).takeWhile (isK 4)
def toN (l : List Pc) : Nat := fromN l + (runOf l).length
def textOf (l : List Pc) : List UInt8 := l.flatMap (·.2)
def halfF (l : List Pc) : Option (List Pc × List Pc × Nums × Bool) :=
  if idxF (isK 4) l < 0 then none else if (l.drop (toN l)).any (isK 4) then none else
    (numP (textOf (runOf l))).map fun r => (joinF (l.take (fromN l)), joinF (l.drop (toN l)), r.1, r.2)
def nilS : Value := .slice none 0 0
def HalfR (w : World) : Option (List Pc × List Pc × Nums × Bool) → Ending → World → Prop
  | none, e, w' => e = refused ∧ Ext w w'
  | some (p, s, n, b), e, w' => ∃ A c B d, e = .returned (.tuple #[.agg (patC (.slice A p.length c) (.slice B s.length d) nilS nilS n).toArray, .bool b]) ∧ Row w' A (pcsV p) ∧ Row w' B (pcsV s) ∧ Fresh w A ∧ Fresh w B ∧ p.length ≤ c ∧ Okc A c ∧ s.length ≤ d ∧ Okc B d ∧ Ext w w'

theorem textOf_len (l : List Pc) : (textOf l).length = tot l := by
  induction l with
  | nil => rfl
  | cons p l ih =>
    have e : tot (p :: l) = p.2.length + tot l := by simp [tot]
    have e2 : textOf (p :: l) = p.2 ++ textOf l := rfl
    rw [e2, List.length_append, ih, e]
theorem textOf_snoc {l : List Pc} {k : Nat} (hk : k < l.length) : textOf (l.take (k + 1)) = textOf (l.take k) ++ l[k].2 := by
  unfold textOf; rw [List.take_succ_eq_append_getElem hk, List.flatMap_append]; simp
theorem tw_prefix {α : Type} (p : α → Bool) (l : List α) (k : Nat) (hk : k < (l.takeWhile p).length) : ∃ h : k < l.length, l[k] = (l.takeWhile p)[k] ∧ p l[k] = true := by
  induction l generalizing k with
  | nil => simp at hk
  | cons a l ih =>
    by_cases ha : p a = true
    · have e : (a :: l).takeWhile p = a :: l.takeWhile p := by rw [List.takeWhile_cons, if_pos ha]
      cases k with
      | zero => exact ⟨by simp, by simp [e], ha⟩
      | succ k =>
        rw [e] at hk
        obtain ⟨h, h1, h2⟩ := ih k (by simpa using hk)
        exact ⟨by simpa using h, by simp [e, h1], by simpa using h2⟩
    · rw [List.takeWhile_cons, if_neg ha] at hk; simp at hk
theorem tw_stop {α : Type} (p : α → Bool) (l : List α) (h : (l.takeWhile p).length < l.length) : p l[(l.takeWhile p).length] = false := by
  induction l with
  | nil => simp at h
  | cons a l ih =>
    by_cases ha : p a = true
    · have e : (a :: l).takeWhile p = a :: l.takeWhile p := by rw [List.takeWhile_cons, if_pos ha]
      simp only [e, List.length_cons, List.getElem_cons_succ]
      simp only [e, List.length_cons, Nat.add_lt_add_iff_right] at h
      exact ih h
    · have e : (a :: l).takeWhile p = [] := by rw [List.takeWhile_cons, if_neg ha]
      simp only [e, List.length_nil, List.getElem_cons_zero]
      simpa using ha
theorem idxF_lt {α : Type} (p : α → Bool) (l : List α) (h : 0 ≤ idxF p l) : (idxF p l).toNat < l.length := by
  unfold idxF at h ⊢
  cases hf : l.findIdx? p with
  | none => rw [hf] at h; simp at h
  | some i =>
    rw [List.findIdx?_eq_some_iff_getElem] at hf
    obtain ⟨hi, _⟩ := hf
    simpa using hi

theorem contains_n (A : Option Addr) (c n : Nat) (l : List Pc) (w : World) (hn : l.length = n) (hr : Row w A (pcsV l)) (hl : l.length ≤ 10000000000) :
    Calls Tryz.prog 95 #[.slice A n c, .func (.func 94) #[] #[]] w fun e w' => e = .returned (.bool (l.any (isK 4))) ∧ Ext w w' := by
  subst hn; exact contains_half A c l w hr hl
theorem pcsV_drop (l : List Pc) (k : Nat) : (pcsV l).drop (k * 2) = pcsV (l.drop k) := by
  induction k generalizing l with
  | zero => rfl
  | succ k ih =>
    cases l with
    | nil => simp [pcsV]
    | cons p l =>
      have e : pcsV (p :: l) = .int .i64 p.1 :: .string ⟨p.2.toArray⟩ :: pcsV l := rfl
      rw [e, Nat.succ_mul]
      exact ih l
theorem pcsV_take (l : List Pc) (k : Nat) : (pcsV l).take (k * 2) = pcsV (l.take k) := by
  induction k generalizing l with
  | zero => simp [pcsV]
  | succ k ih =>
    cases l with
    | nil => simp [pcsV]
    | cons p l =>
      have e : pcsV (p :: l) = .int .i64 p.1 :: .string ⟨p.2.toArray⟩ :: pcsV l := rfl
      have e2 : pcsV ((p :: l).take (k + 1)) = .int .i64 p.1 :: .string ⟨p.2.toArray⟩ :: pcsV (l.take k) := rfl
      rw [e, e2, Nat.succ_mul, ← ih l]
      rfl
theorem row_drop {w : World} {b off : Nat} {l : List Pc} (h : Row w (some ⟨b, off, none⟩) (pcsV l)) (k : Nat) : Row w (some ⟨b, off + k * 2, none⟩) (pcsV (l.drop k)) := by
  rw [← pcsV_drop]; exact Row.drop h
theorem row_take {w : World} {A : Option Addr} {l : List Pc} (h : Row w A (pcsV l)) (k : Nat) : Row w A (pcsV (l.take k)) := by
  rw [← pcsV_take]; exact Row.take h
theorem infoPat : (Tryz.prog.info? 28).map (·.size) = some 9 := by kernel_rfl
theorem pat_one {A B C D : Option Addr} {n m o q c d e f : Nat} {x : Nums} : (patC (.slice A n c) (.slice B m d) (.slice C o e) (.slice D q f) x).toArray.all (·.oneCell') = true := by simp [patC, Value.oneCell']
theorem results_half {fn : Func} (h : fn.results = #[.cell 2 28, .tmp 3]) (tmps : Array Value) (w : World) (g : Nat) (cs : List Value)
    (h2 : tmps.getD 2 undef = .pointer (some ⟨g, 0, none⟩)) (hb : Box w g 28 cs) (hl : cs.length = 9) :
    (results fn tmps).run Tryz.prog w = .ok (.tuple #[.agg cs.toArray, tmps.getD 3 undef]) w := by
  have h2' : tmps[2]?.getD undef = .pointer (some ⟨g, 0, none⟩) := by simpa using h2
  have e1 := run_loadVar_row (P := Tryz.prog) w g _ 28 cs.toArray (0, 0) _ hb Tryz.underlying28 rfl (by rw [infoPat]; simp [hl])
  simp [results, h, h2', asAddr, e1]
theorem Row.setRow {w : World} {A : Option Addr} {g : Nat} {cs : List Value} {ds : Array Value} (h : Row w A cs) (hne : ∀ b off, A = some ⟨b, off, none⟩ → b ≠ g) : Row (w.setRow g ds) A cs := by
  rcases h with h | ⟨b, off, rfl, h⟩
  · exact .inl h
  · exact .inr ⟨b, off, rfl, fun j v hj => (World.cell?_of_block (setRow_other w g b ds (hne b off rfl))).trans (h j v hj)⟩
theorem fresh_weak {w0 w : World} {B : Option Addr} (h : Fresh w B) (hs : w0.heap.size ≤ w.heap.size) : Fresh w0 B := fun a ha => Nat.le_trans hs (h a ha)
theorem OnlyB.trans {g : Nat} {a b c : World} (h : OnlyB g a b) (k : OnlyB g b c) : OnlyB g a c :=
  ⟨k.os.trans h.os, k.tape.trans h.tape, k.output.trans h.output, Nat.le_trans h.size k.size, fun i hi hne => (k.block i (Nat.lt_of_lt_of_le hi h.size) hne).trans (h.block i hi hne)⟩
theorem OnlyB.ext {g : Nat} {w v v' : World} (h : OnlyB g v v') (hx : Ext w v) (hg : w.heap.size ≤ g) : Ext w v' :=
  ⟨h.os.trans hx.os, h.tape.trans hx.tape, h.output.trans hx.output, Nat.le_trans hx.size h.size, fun k hk => (h.block k (Nat.lt_of_lt_of_le hk hx.size) (by omega)).trans (hx.block k hk)⟩
theorem Row.past {g : Nat} {w v v' : World} {A : Option Addr} {cs : List Value} (hr : Row w A cs) (hx : Ext w v) (h : OnlyB g v v') (hg : w.heap.size ≤ g) : Row v' A cs :=
  hr.below (OnlyB.ext h hx hg) (Nat.le_refl _)
theorem Box.after {W w' : World} {T : TypeId} {c : Array Value} (h : Ext (W.alloc (.cells c T)) w') : Box w' W.heap.size T c.toList := by
  have hb : Box (W.alloc (.cells c T)) W.heap.size T c.toList := by unfold Box; rw [Array.toArray_toList]; exact heap_alloc_new W _
  exact hb.ext h
theorem Box.after' {W w' : World} {T : TypeId} {c : Array Value} (h : Ext (W.alloc (.cells c T)).drew w') : Box w' W.heap.size T c.toList :=
  Box.after (W := W) (T := T) (c := c) ⟨h.os, h.tape, h.output, h.size, h.block⟩
theorem box9 {w : World} {g : Nat} {T : TypeId} {c0 c1 c2 c3 c4 c5 c6 c7 c8 : Value} (h : Box w g T [c0, c1, c2, c3, c4, c5, c6, c7, c8]) :
    w.cell? ⟨g, 0, none⟩ = some c0 ∧ w.cell? ⟨g, 1, none⟩ = some c1 ∧ w.cell? ⟨g, 2, none⟩ = some c2 ∧ w.cell? ⟨g, 3, none⟩ = some c3 ∧ w.cell? ⟨g, 4, none⟩ = some c4 ∧ w.cell? ⟨g, 5, none⟩ = some c5 ∧ w.cell? ⟨g, 6, none⟩ = some c6 ∧ w.cell? ⟨g, 7, none⟩ = some c7 ∧ w.cell? ⟨g, 8, none⟩ = some c8 ∧
    w.frozen? ⟨g, 0, none⟩ = false ∧ w.frozen? ⟨g, 1, none⟩ = false ∧ w.frozen? ⟨g, 2, none⟩ = false ∧ w.frozen? ⟨g, 3, none⟩ = false ∧ w.frozen? ⟨g, 4, none⟩ = false ∧ w.frozen? ⟨g, 5, none⟩ = false ∧ w.frozen? ⟨g, 6, none⟩ = false ∧ w.frozen? ⟨g, 7, none⟩ = false ∧ w.frozen? ⟨g, 8, none⟩ = false :=
  ⟨h.cell (j := 0) rfl, h.cell (j := 1) rfl, h.cell (j := 2) rfl, h.cell (j := 3) rfl, h.cell (j := 4) rfl, h.cell (j := 5) rfl, h.cell (j := 6) rfl, h.cell (j := 7) rfl, h.cell (j := 8) rfl,
    h.frozen 0, h.frozen 1, h.frozen 2, h.frozen 3, h.frozen 4, h.frozen 5, h.frozen 6, h.frozen 7, h.frozen 8⟩
set_option maxRecDepth 100000 in
set_option maxHeartbeats 3000000 in
theorem half_ (A : Option Addr) (c : Nat) (l : List Pc) (w : World) (hr : Row w A (pcsV l)) (hl : l.length ≤ 1000000000) (ht : tot l ≤ 1000000000) (hlc : l.length ≤ c) :
    Calls Tryz.prog 52 #[.slice A l.length c] w fun e w' => HalfR w (halfF l) e w' := by
  have hb0 := Box.new w 28 (patC nilS nilS nilS nilS zeroN)
  have hx0 : Ext w (w.alloc (.cells (patC nilS nilS nilS nilS zeroN).toArray 28)) := Ext.alloc_ (Ext.refl w) _
  have hr0 := hr.below hx0 (Nat.le_refl _)
  have hs0 : (w.alloc (.cells (patC nilS nilS nilS nilS zeroN).toArray 28)).heap.size = w.heap.size + 1 := by simp
  go_enter Tryz.func52, Tryz.ntmps52
  go_wp2_with fail
  change Calls _ _ _ (w.alloc (.cells (patC nilS nilS nilS nilS zeroN).toArray 28)) _
  generalize w.alloc (.cells (patC nilS nilS nilS nilS zeroN).toArray 28) = w0 at *
  refine (index_half _ _ _ _ hr0 (by omega)).mono ?_; rintro e w1 ⟨rfl, hx1⟩
  have hb1 := hb0.ext hx1
  have hr1 := hr0.below hx1 (Nat.le_refl _)
  have hxx : Ext w w1 := hx0.trans hx1
  have hs1 := hx1.size
  rw [hs0] at hs1
  clear hb0 hr0 hx0 hx1 hs0
  by_cases hi : idxF (isK 4) l < 0
  · have H0 : Hid (halfF l = none) := Lib.hid (by unfold halfF; rw [if_pos hi])
    have HD : Hid (decide (0 ≤ idxF (isK 4) l) = false) := Lib.hid (by simp; omega)
    clear hi
    go_wp2_with fail
    rw [HD.out]
    refine (must_no _).mono ?_; rintro e w2 ⟨rfl, rfl⟩
    go_wp2
    refine ⟨rfl, ?_⟩
    rw [H0.out]
    exact ⟨rfl, hxx⟩
  · have hi0 : 0 ≤ idxF (isK 4) l := by omega
    have hfl := idxF_lt _ _ hi0
    have HD : Hid (decide (0 ≤ idxF (isK 4) l) = true) := Lib.hid (by simp; omega)
    have HH : Hid (halfF l = if (l.drop (toN l)).any (isK 4) then none else (numP (textOf (runOf l))).map fun r => (joinF (l.take (fromN l)), joinF (l.drop (toN l)), r.1, r.2)) := Lib.hid (by unfold halfF; rw [if_neg hi])
    have hft : toN l = fromN l + (runOf l).length := rfl
    have hrl : (runOf l).length ≤ l.length - fromN l := by
      unfold runOf
      exact Nat.le_trans (List.takeWhile_prefix _).length_le (by simp)
    have hrt : tot (runOf l) ≤ tot l := by
      have e := List.takeWhile_append_dropWhile (p := isK 4) (l := l.drop (fromN l))
      have e2 : tot (runOf l) ≤ tot (l.drop (fromN l)) := by
        unfold runOf
        conv => rhs; rw [← e, tot_app]
        omega
      exact Nat.le_trans e2 (tot_drop l _)
    have HG0 : ∀ j, j < (runOf l).length → ∃ h : fromN l + j < l.length, l[fromN l + j].2 = ((runOf l)[j]?.getD (0, [])).2 ∧ isK 4 l[fromN l + j] = true := by
      intro j hj
      obtain ⟨h, h1, h2⟩ := tw_prefix (isK 4) (l.drop (fromN l)) j hj
      rw [List.length_drop] at h
      rw [List.getElem_drop] at h1 h2
      exact ⟨by omega, by rw [h1, List.getElem?_eq_getElem hj]; rfl, h2⟩
    have HST0 : ∀ h : toN l < l.length, isK 4 l[toN l] = false := by
      intro h
      have := tw_stop (isK 4) (l.drop (fromN l)) (by rw [List.length_drop]; unfold toN runOf at h; omega)
      rw [List.getElem_drop] at this
      exact this
    have HF : Hid (idxF (isK 4) l = (fromN l : Nat)) := Lib.hid (by unfold fromN; omega)
    have hff : fromN l < l.length := hfl
    generalize fromN l = f at *
    generalize toN l = t at *
    generalize runOf l = run at *
    generalize idxF (isK 4) l = ix at *
    have HG := Lib.hid HG0
    have HST := Lib.hid HST0
    clear HG0 HST0
    have hix := HF.out
    subst hix
    clear hi hi0 hfl
    go_wp2_with fail
    refine (must_ok _).mono ?_; rintro e w2 ⟨rfl, rfl⟩
    obtain ⟨b, off, rfl, -, -⟩ := row_pc hr1 hff
    have HFT := Lib.hid hft
    have htle : t ≤ l.length := by omega
    have htlc : t ≤ c := by omega
    have htl2 : (textOf run).length ≤ tot l := by rw [textOf_len]; exact hrt
    clear hft
    go_wp2
    go_loopw [6, 7] (fun tv s wr => ∃ j tt : Nat, tt = f + j ∧ j ≤ run.length ∧ tv = .int .i64 (tt : Int) ∧ s = .string ⟨(textOf (run.take j)).toArray⟩ ∧ Ext w1 wr) (fun tv _ _ => l.length - (intOf tv).toNat)
    case atStart => exact ⟨0, f, rfl, Nat.zero_le _, rfl, rfl, Ext.refl _⟩
    case round =>
      obtain ⟨j, tt, htt, hj, rfl, rfl, hx⟩ := hrel
      have hrw := hr1.below hx (Nat.le_refl _)
      by_cases hlt : j < run.length
      · obtain ⟨hq, hq2, hq3⟩ := HG.out j hlt
        subst htt
        obtain ⟨_, _, e1, hc1, hc2⟩ := row_pc hrw hq
        injection e1 with e1
        injection e1 with e1 e2
        subst e1; subst e2
        have HT : Hid (textOf (run.take (j + 1)) = textOf (run.take j) ++ l[f + j].2) := Lib.hid (by rw [textOf_snoc hlt, hq2, List.getElem?_eq_getElem hlt]; rfl)
        have hle : (textOf (run.take j)).length + l[f + j].2.length ≤ tot run := by
          rw [← List.length_append, ← HT.out, textOf_len]; exact tot_take _ _
        generalize l[f + j] = x at *
        generalize textOf (run.take j) = tx at *
        have HK := Lib.hid hq3
        have hsum : ¬ 9223372036854775807 < tx.length + x.2.length := by omega
        generalize hjj : f + j = tt at *
        have HJJ := Lib.hid hjj
        clear hq2 hq3 hjj
        go_wp2_with fail
        refine (isK_half x _).mono ?_; rintro e w3 ⟨rfl, hx3⟩
        rw [HK.out]
        have hc3 := Ext.cell_ hx3 hc2
        go_wp2
        go_roundw
        case rel => exact ⟨j + 1, tt + 1, by rw [← HJJ.out]; omega, by omega, by go_num, by rw [HT.out, app_mk], hx.trans hx3⟩
        case measure => simp [intOf]; omega
      · have e : j = run.length := by omega
        subst e
        subst htt
        rw [List.take_length]
        have hft2 := HFT.out
        clear hj hlt
        by_cases htl : f + run.length < l.length
        · obtain ⟨_, _, e1, hc1, hc2⟩ := row_pc hrw htl
          injection e1 with e1
          injection e1 with e1 e2
          subst e1; subst e2
          have HK : Hid (isK 4 l[f + run.length] = false) := Lib.hid (by have := HST.out (by omega); simpa [hft2] using this)
          generalize l[f + run.length] = x at *
          rw [← hft2] at hc1 hc2 htl ⊢
          clear hft2
          have hct : ¬ c = t := by omega
          go_wp2_with fail
          refine (isK_half x _).mono ?_; rintro e w3 ⟨rfl, hx3⟩
          rw [HK.out]
          have hz := hx.trans hx3
          clear hc1 hc2 hx hx3 hrw HK
          --TAIL0
          go_wp2_with fail
          (refine (contains_n _ _ _ (l.drop t) _ (by first | (simp; done) | (simp; omega)) (by first | exact row_drop (hr1.below hz (Nat.le_refl _)) t | (rw [List.drop_of_length_le (by omega)]; exact Row.nil)) (by simp; omega)).mono ?_; rintro e w4 ⟨rfl, hx4⟩)
          cases hany : (l.drop t).any (isK 4)
          · have HA := Lib.hid hany
            clear hany
            go_wp2_with fail
            refine (must_ok _).mono ?_; rintro e w5 ⟨rfl, rfl⟩
            have hz4 := hz.trans hx4
            clear hz hx4
            have HJA : Hid (∀ W, Ext w4 W → Calls Tryz.prog 96 #[.slice (some ⟨b, off, none⟩) f c] W fun e w' => ∃ B d, e = .returned (.slice B (joinF (l.take f)).length d) ∧ Row w' B (pcsV (joinF (l.take f))) ∧ (joinF (l.take f)).length ≤ d ∧ Okc B d ∧ Fresh W B ∧ Ext W w') := Lib.hid (fun W hW => joined_n _ _ f (l.take f) W (by simp; omega) (row_take (hr1.below (hz4.trans hW) (Nat.le_refl _)) f) (by simp; omega) (Nat.le_trans (tot_take _ _) (by omega)))
            have HJB : Hid (∀ W, Ext w4 W → Calls Tryz.prog 96 #[.slice (some ⟨b, off + t * 2, none⟩) (l.length - t) (c - t)] W fun e w' => ∃ B d, e = .returned (.slice B (joinF (l.drop t)).length d) ∧ Row w' B (pcsV (joinF (l.drop t))) ∧ (joinF (l.drop t)).length ≤ d ∧ Okc B d ∧ Fresh W B ∧ Ext W w') := Lib.hid (fun W hW => joined_n _ _ (l.length - t) (l.drop t) W (by simp) (row_drop (hr1.below (hz4.trans hW) (Nat.le_refl _)) t) (by simp; omega) (Nat.le_trans (tot_drop _ _) (by omega)))
            have hb4 := Lib.hid (hb1.ext hz4)
            have hx14 := hxx.trans hz4
            have hs4 : w.heap.size + 1 ≤ w4.heap.size := Nat.le_trans hs1 hz4.size
            clear hb1 hz4 hr1 hr hxx hs1
            have hi1 : (0 : Int) ≤ (f : Int) := by omega
            have hi2 : (f : Int) ≤ (c : Int) := by omega
            have hi3 : (0 : Int) ≤ (t : Int) := by omega
            have hi4 : (t : Int) ≤ (c : Int) := by omega
            have hi5 : (t : Int) ≤ (l.length : Int) := by omega
            have hi6 : (f : Int) ≤ (l.length : Int) := by omega
            have hi7 : f ≤ c := by omega
            go_upto_region 10 with fail
            go_cut [8] (fun v wx => ∃ (g : Nat) (A1 : Option Addr) (c1 : Nat) (B1 : Option Addr) (d1 : Nat), v = .pointer (some ⟨g, 0, none⟩) ∧ Box wx g 28 (patC (.slice A1 (joinF (l.take f)).length c1) (.slice B1 (joinF (l.drop t)).length d1) nilS nilS zeroN) ∧ w4.heap.size ≤ g ∧
              Hid (∀ w', OnlyB g wx w' → Row w' A1 (pcsV (joinF (l.take f)))) ∧ Hid (∀ w', OnlyB g wx w' → Row w' B1 (pcsV (joinF (l.drop t)))) ∧ Hid (Fresh w4 A1 ∧ Fresh w4 B1 ∧ (joinF (l.take f)).length ≤ c1 ∧ Okc A1 c1 ∧ (joinF (l.drop t)).length ≤ d1 ∧ Okc B1 d1) ∧ Ext w4 wx)
            case first =>
              go_region_held3 (fun _ => True) (trivial) (first
                | (go_at_call 96; with_reducible refine (HJA.out _ ?_).mono ?_; (first | exact Ext.drew_ (Ext.refl _) | exact Ext.drew_ (Ext.alloc_ (Ext.refl _) _) | exact Ext.trans (Ext.drew_ (Ext.refl _)) (by assumption) | exact Ext.trans (Ext.drew_ (Ext.alloc_ (Ext.refl _) _)) (by assumption) | exact Ext.alloc_ (Ext.trans (Ext.drew_ (Ext.refl _)) (by assumption)) _ | exact Ext.refl _); rintro e w5 ⟨A1, c1, rfl, hA1, hA2, hA3, hA4, hx5⟩; (first | (have hbx := Box.after hx5; obtain ⟨q0, q1, q2, q3, q4, q5, q6, q7, q8, r0, r1, r2, r3, r4, r5, r6, r7, r8⟩ := box9 hbx) | (have hbx := Box.after' hx5; obtain ⟨q0, q1, q2, q3, q4, q5, q6, q7, q8, r0, r1, r2, r3, r4, r5, r6, r7, r8⟩ := box9 hbx) | (rename Box _ _ _ _ => hbz; have hbx := hbz.ext hx5; obtain ⟨q0, q1, q2, q3, q4, q5, q6, q7, q8, r0, r1, r2, r3, r4, r5, r6, r7, r8⟩ := box9 hbx) | skip))
                | (go_at_call 96; with_reducible refine (HJB.out _ ?_).mono ?_; (first | exact Ext.drew_ (Ext.refl _) | exact Ext.drew_ (Ext.alloc_ (Ext.refl _) _) | exact Ext.trans (Ext.drew_ (Ext.refl _)) (by assumption) | exact Ext.trans (Ext.drew_ (Ext.alloc_ (Ext.refl _) _)) (by assumption) | exact Ext.alloc_ (Ext.trans (Ext.drew_ (Ext.refl _)) (by assumption)) _ | exact Ext.refl _); rintro e w6 ⟨B1, d1, rfl, hB1, hB2, hB3, hB4, hx6⟩; (first | (have hbx := Box.after hx6; obtain ⟨q0, q1, q2, q3, q4, q5, q6, q7, q8, r0, r1, r2, r3, r4, r5, r6, r7, r8⟩ := box9 hbx) | (have hbx := Box.after' hx6; obtain ⟨q0, q1, q2, q3, q4, q5, q6, q7, q8, r0, r1, r2, r3, r4, r5, r6, r7, r8⟩ := box9 hbx) | (rename Box _ _ _ _ => hbz; have hbx := hbz.ext hx6; obtain ⟨q0, q1, q2, q3, q4, q5, q6, q7, q8, r0, r1, r2, r3, r4, r5, r6, r7, r8⟩ := box9 hbx) | skip)))
              all_goals (go_wp2_with fail; go_meet)
              · have hn1 := Box.new w6 28 (patC (.slice A1 (joinF (l.take f)).length c1) (.slice B1 (joinF (l.drop t)).length d1) nilS nilS zeroN)
                have hx45 := (Ext.drew_ (Ext.refl w4)).trans hx5
                have hx46 := hx45.trans hx6
                have hA6 := hA1.below hx6 (Nat.le_refl _)
                exact ⟨_, A1, c1, B1, d1, rfl, hn1, hx46.size, Lib.hid fun w' hw => Row.past hA6 (Ext.alloc_ (Ext.refl w6) _) hw (Nat.le_refl _), Lib.hid fun w' hw => Row.past hB1 (Ext.alloc_ (Ext.refl w6) _) hw (Nat.le_refl _), Lib.hid ⟨fresh_weak hA4 (Nat.le_refl _), fresh_weak hB4 hx45.size, hA2, hA3, hB2, hB3⟩, hx46.alloc_ _⟩
              · have hx45 := (Ext.drew_ (Ext.refl w4)).trans hx5
                have hx56 := (Ext.alloc_ (Ext.refl w5) _).trans hx6
                have hx46 := hx45.trans hx56
                have hsz : w5.heap.size < w6.heap.size := hbx.lt
                exact ⟨_, A1, c1, B1, d1, rfl, ((((((((((hbx).setCell 0 _).setCell 1 _).setCell 2 _).setCell 3 _).setCell 4 _).setCell 5 _).setCell 6 _).setCell 7 _).setCell 8 _), hx45.size,
                  Lib.hid fun w' hw => Row.past hA1 ((Ext.setCell_ (Ext.setCell_ (Ext.setCell_ (Ext.setCell_ (Ext.setCell_ (Ext.setCell_ (Ext.setCell_ (Ext.setCell_ (Ext.setCell_ hx56 (Nat.le_refl _) _ _) (Nat.le_refl _) _ _) (Nat.le_refl _) _ _) (Nat.le_refl _) _ _) (Nat.le_refl _) _ _) (Nat.le_refl _) _ _) (Nat.le_refl _) _ _) (Nat.le_refl _) _ _) (Nat.le_refl _) _ _)) hw (Nat.le_refl _),
                  Lib.hid fun w' hw => Row.only hB1 (OnlyB.trans ((((((((((OnlyB.of_ext (Ext.refl w6)).setCell 0 _).setCell 1 _).setCell 2 _).setCell 3 _).setCell 4 _).setCell 5 _).setCell 6 _).setCell 7 _).setCell 8 _) hw) (fun b' off' e _ => by have := hB4 _ e; simp at this; omega),
                  Lib.hid ⟨fresh_weak hA4 (Nat.le_refl _), fresh_weak hB4 (by have := hx45.size; simp; omega), hA2, hA3, hB2, hB3⟩, (Ext.setCell_ (Ext.setCell_ (Ext.setCell_ (Ext.setCell_ (Ext.setCell_ (Ext.setCell_ (Ext.setCell_ (Ext.setCell_ (Ext.setCell_ hx46 hx45.size _ _) hx45.size _ _) hx45.size _ _) hx45.size _ _) hx45.size _ _) hx45.size _ _) hx45.size _ _) hx45.size _ _) hx45.size _ _)⟩
              · have hx45 : Ext w4 w5 := (Ext.drew_ (Ext.alloc_ (Ext.refl w4) _)).trans hx5
                have hx46 := hx45.trans hx6
                have hA6 := hA1.below hx6 (Nat.le_refl _)
                have hs5 : w4.heap.size + 1 ≤ w5.heap.size := by have := hx5.size; simpa using this
                exact ⟨_, A1, c1, B1, d1, rfl, ((((((((((hbx).setCell 0 _).setCell 1 _).setCell 2 _).setCell 3 _).setCell 4 _).setCell 5 _).setCell 6 _).setCell 7 _).setCell 8 _), Nat.le_refl _,
                  Lib.hid fun w' hw => Row.only hA6 (OnlyB.trans ((((((((((OnlyB.of_ext (Ext.refl w6)).setCell 0 _).setCell 1 _).setCell 2 _).setCell 3 _).setCell 4 _).setCell 5 _).setCell 6 _).setCell 7 _).setCell 8 _) hw) (fun b' off' e _ => by have := hA4 _ e; simp at this; omega),
                  Lib.hid fun w' hw => Row.only hB1 (OnlyB.trans ((((((((((OnlyB.of_ext (Ext.refl w6)).setCell 0 _).setCell 1 _).setCell 2 _).setCell 3 _).setCell 4 _).setCell 5 _).setCell 6 _).setCell 7 _).setCell 8 _) hw) (fun b' off' e _ => by have := hB4 _ e; dsimp only at this; omega),
                  Lib.hid ⟨fresh_weak hA4 (by simp), fresh_weak hB4 hx45.size, hA2, hA3, hB2, hB3⟩, (Ext.setCell_ (Ext.setCell_ (Ext.setCell_ (Ext.setCell_ (Ext.setCell_ (Ext.setCell_ (Ext.setCell_ (Ext.setCell_ (Ext.setCell_ hx46 (Nat.le_refl _) _ _) (Nat.le_refl _) _ _) (Nat.le_refl _) _ _) (Nat.le_refl _) _ _) (Nat.le_refl _) _ _) (Nat.le_refl _) _ _) (Nat.le_refl _) _ _) (Nat.le_refl _) _ _) (Nat.le_refl _) _ _)⟩
            case rest =>
              obtain ⟨g, A1, c1, B1, d1, rfl, hbg, hg4, HRA, HRB, HFR, hx4c⟩ := hcut
              have hbr := hb4.out.ext hx4c
              have HR1 : Hid (halfF l = (numP (textOf run)).map fun r => (joinF (l.take f), joinF (l.drop t), r.1, r.2)) := Lib.hid (by rw [HH.out, HA.out]; rfl)
              clear HH HA HG HST HJA HJB hi1 hi2 hi3 hi4 hi5 hi6 hi7
              go_wp2_with fail
              refine (number_ g _ _ _ _ _ _ hbg (by rw [show (⟨(textOf run).toArray⟩ : ByteArray).size = (textOf run).length from rfl]; omega)).mono ?_
              rw [show ((⟨(textOf run).toArray⟩ : ByteArray).data.toList) = textOf run from rfl]
              intro e w7 hN
              cases hnp : numP (textOf run) with
              | none =>
                rw [hnp] at hN HR1
                obtain ⟨rfl, hon⟩ := hN
                go_wp2
                refine ⟨rfl, ?_⟩
                rw [HR1.out]
                exact ⟨rfl, OnlyB.ext hon (hx14.trans hx4c) (by omega)⟩
              | some r =>
                obtain ⟨n, bb⟩ := r
                rw [hnp] at hN HR1
                obtain ⟨rfl, hb7, hon⟩ := hN
                have HRR := Lib.hid hb7.range
                have HB7 := Lib.hid (OnlyB.box hon hbr (by omega))
                clear hnp
                go_wp2_with (first
                  | (refine wpList_load_mid rfl 28 (.tmp 8) rfl g 0 rfl (patC (.slice A1 (joinF (l.take f)).length c1) (.slice B1 (joinF (l.drop t)).length d1) nilS nilS n) _ HRR.out Tryz.underlying28 rfl infoPat ?_)
                  | (refine wpList_store_row rfl 28 (.tmp 2) (.tmp 56) rfl w.heap.size (patC (.slice A1 (joinF (l.take f)).length c1) (.slice B1 (joinF (l.drop t)).length d1) nilS nilS n).toArray rfl rfl _ _ HB7.out infoPat rfl pat_one ?_))
                have hb8 := HB7.out.set (patC (.slice A1 (joinF (l.take f)).length c1) (.slice B1 (joinF (l.drop t)).length d1) nilS nilS n).toArray
                refine bodyPost_ret (results_half rfl _ _ w.heap.size _ rfl hb8 rfl) rfl ?_
                rw [HR1.out]
                obtain ⟨f1, f2, f3, f4, f5, f6⟩ := HFR.out
                have hws : w.heap.size < w4.heap.size := by omega
                have hE := OnlyB.ext hon (hx14.trans hx4c) (by omega)
                exact ⟨A1, c1, B1, d1, rfl, Row.setRow (HRA.out _ hon) (fun b' off' e => by have := f1 _ e; simp at this; omega), Row.setRow (HRB.out _ hon) (fun b' off' e => by have := f2 _ e; simp at this; omega), fresh_weak f1 (by omega), fresh_weak f2 (by omega), f3, f4, f5, f6, Ext.setRow hE (Nat.le_refl _) _⟩
          · have H0 : Hid (halfF l = none) := Lib.hid (by rw [HH.out, hany]; rfl)
            clear hany
            go_wp2_with fail
            refine (must_no _).mono ?_; rintro e w5 ⟨rfl, rfl⟩
            go_wp2
            refine ⟨rfl, ?_⟩
            rw [H0.out]
            exact ⟨rfl, (hxx.trans hz).trans hx4⟩
          --END0
        · rw [← hft2] at htl ⊢
          clear hft2 hrw
          have hz := hx
          clear hx
          by_cases hct : c = t
          · subst c
            go_wp2_with fail
            (refine (contains_n _ _ _ (l.drop t) _ (by first | (simp; done) | (simp; omega)) (by first | exact row_drop (hr1.below hz (Nat.le_refl _)) t | (rw [List.drop_of_length_le (by omega)]; exact Row.nil)) (by simp; omega)).mono ?_; rintro e w4 ⟨rfl, hx4⟩)
            cases hany : (l.drop t).any (isK 4)
            · have HA := Lib.hid hany
              clear hany
              go_wp2_with fail
              refine (must_ok _).mono ?_; rintro e w5 ⟨rfl, rfl⟩
              have hz4 := hz.trans hx4
              clear hz hx4
              have HJA : Hid (∀ W, Ext w4 W → Calls Tryz.prog 96 #[.slice (some ⟨b, off, none⟩) f t] W fun e w' => ∃ B d, e = .returned (.slice B (joinF (l.take f)).length d) ∧ Row w' B (pcsV (joinF (l.take f))) ∧ (joinF (l.take f)).length ≤ d ∧ Okc B d ∧ Fresh W B ∧ Ext W w') := Lib.hid (fun W hW => joined_n _ _ f (l.take f) W (by simp; omega) (row_take (hr1.below (hz4.trans hW) (Nat.le_refl _)) f) (by simp; omega) (Nat.le_trans (tot_take _ _) (by omega)))
              have HJB : Hid (∀ W, Ext w4 W → Calls Tryz.prog 96 #[.slice (some ⟨b, off, none⟩) 0 0] W fun e w' => ∃ B d, e = .returned (.slice B (joinF (l.drop t)).length d) ∧ Row w' B (pcsV (joinF (l.drop t))) ∧ (joinF (l.drop t)).length ≤ d ∧ Okc B d ∧ Fresh W B ∧ Ext W w') := Lib.hid (fun W hW => joined_n _ _ 0 (l.drop t) W (by simp; omega) (by rw [List.drop_of_length_le (by omega)]; exact Row.nil) (by simp; omega) (Nat.le_trans (tot_drop _ _) (by omega)))
              have hb4 := Lib.hid (hb1.ext hz4)
              have hx14 := hxx.trans hz4
              have hs4 : w.heap.size + 1 ≤ w4.heap.size := Nat.le_trans hs1 hz4.size
              clear hb1 hz4 hr1 hr hxx hs1
              have hi1 : (0 : Int) ≤ (f : Int) := by omega
              have hi2 : (f : Int) ≤ (t : Int) := by omega
              have hi3 : (0 : Int) ≤ (t : Int) := by omega
              have hi4 : (t : Int) ≤ (t : Int) := by omega
              have hi5 : (t : Int) ≤ (l.length : Int) := by omega
              have hi6 : (f : Int) ≤ (l.length : Int) := by omega
              have hi7 : f ≤ t := by omega
              go_upto_region 10 with fail
              go_cut [8] (fun v wx => ∃ (g : Nat) (A1 : Option Addr) (c1 : Nat) (B1 : Option Addr) (d1 : Nat), v = .pointer (some ⟨g, 0, none⟩) ∧ Box wx g 28 (patC (.slice A1 (joinF (l.take f)).length c1) (.slice B1 (joinF (l.drop t)).length d1) nilS nilS zeroN) ∧ w4.heap.size ≤ g ∧
                Hid (∀ w', OnlyB g wx w' → Row w' A1 (pcsV (joinF (l.take f)))) ∧ Hid (∀ w', OnlyB g wx w' → Row w' B1 (pcsV (joinF (l.drop t)))) ∧ Hid (Fresh w4 A1 ∧ Fresh w4 B1 ∧ (joinF (l.take f)).length ≤ c1 ∧ Okc A1 c1 ∧ (joinF (l.drop t)).length ≤ d1 ∧ Okc B1 d1) ∧ Ext w4 wx)
              case first =>
                go_region_held3 (fun _ => True) (trivial) (first
                  | (go_at_call 96; with_reducible refine (HJA.out _ ?_).mono ?_; (first | exact Ext.drew_ (Ext.refl _) | exact Ext.drew_ (Ext.alloc_ (Ext.refl _) _) | exact Ext.trans (Ext.drew_ (Ext.refl _)) (by assumption) | exact Ext.trans (Ext.drew_ (Ext.alloc_ (Ext.refl _) _)) (by assumption) | exact Ext.alloc_ (Ext.trans (Ext.drew_ (Ext.refl _)) (by assumption)) _ | exact Ext.refl _); rintro e w5 ⟨A1, c1, rfl, hA1, hA2, hA3, hA4, hx5⟩; (first | (have hbx := Box.after hx5; obtain ⟨q0, q1, q2, q3, q4, q5, q6, q7, q8, r0, r1, r2, r3, r4, r5, r6, r7, r8⟩ := box9 hbx) | (have hbx := Box.after' hx5; obtain ⟨q0, q1, q2, q3, q4, q5, q6, q7, q8, r0, r1, r2, r3, r4, r5, r6, r7, r8⟩ := box9 hbx) | (rename Box _ _ _ _ => hbz; have hbx := hbz.ext hx5; obtain ⟨q0, q1, q2, q3, q4, q5, q6, q7, q8, r0, r1, r2, r3, r4, r5, r6, r7, r8⟩ := box9 hbx) | skip))
                  | (go_at_call 96; with_reducible refine (HJB.out _ ?_).mono ?_; (first | exact Ext.drew_ (Ext.refl _) | exact Ext.drew_ (Ext.alloc_ (Ext.refl _) _) | exact Ext.trans (Ext.drew_ (Ext.refl _)) (by assumption) | exact Ext.trans (Ext.drew_ (Ext.alloc_ (Ext.refl _) _)) (by assumption) | exact Ext.alloc_ (Ext.trans (Ext.drew_ (Ext.refl _)) (by assumption)) _ | exact Ext.refl _); rintro e w6 ⟨B1, d1, rfl, hB1, hB2, hB3, hB4, hx6⟩; (first | (have hbx := Box.after hx6; obtain ⟨q0, q1, q2, q3, q4, q5, q6, q7, q8, r0, r1, r2, r3, r4, r5, r6, r7, r8⟩ := box9 hbx) | (have hbx := Box.after' hx6; obtain ⟨q0, q1, q2, q3, q4, q5, q6, q7, q8, r0, r1, r2, r3, r4, r5, r6, r7, r8⟩ := box9 hbx) | (rename Box _ _ _ _ => hbz; have hbx := hbz.ext hx6; obtain ⟨q0, q1, q2, q3, q4, q5, q6, q7, q8, r0, r1, r2, r3, r4, r5, r6, r7, r8⟩ := box9 hbx) | skip)))
                all_goals (go_wp2_with fail; go_meet)
                · have hn1 := Box.new w6 28 (patC (.slice A1 (joinF (l.take f)).length c1) (.slice B1 (joinF (l.drop t)).length d1) nilS nilS zeroN)
                  have hx45 := (Ext.drew_ (Ext.refl w4)).trans hx5
                  have hx46 := hx45.trans hx6
                  have hA6 := hA1.below hx6 (Nat.le_refl _)
                  exact ⟨_, A1, c1, B1, d1, rfl, hn1, hx46.size, Lib.hid fun w' hw => Row.past hA6 (Ext.alloc_ (Ext.refl w6) _) hw (Nat.le_refl _), Lib.hid fun w' hw => Row.past hB1 (Ext.alloc_ (Ext.refl w6) _) hw (Nat.le_refl _), Lib.hid ⟨fresh_weak hA4 (Nat.le_refl _), fresh_weak hB4 hx45.size, hA2, hA3, hB2, hB3⟩, hx46.alloc_ _⟩
                · have hx45 := (Ext.drew_ (Ext.refl w4)).trans hx5
                  have hx56 := (Ext.alloc_ (Ext.refl w5) _).trans hx6
                  have hx46 := hx45.trans hx56
                  have hsz : w5.heap.size < w6.heap.size := hbx.lt
                  exact ⟨_, A1, c1, B1, d1, rfl, ((((((((((hbx).setCell 0 _).setCell 1 _).setCell 2 _).setCell 3 _).setCell 4 _).setCell 5 _).setCell 6 _).setCell 7 _).setCell 8 _), hx45.size,
                    Lib.hid fun w' hw => Row.past hA1 ((Ext.setCell_ (Ext.setCell_ (Ext.setCell_ (Ext.setCell_ (Ext.setCell_ (Ext.setCell_ (Ext.setCell_ (Ext.setCell_ (Ext.setCell_ hx56 (Nat.le_refl _) _ _) (Nat.le_refl _) _ _) (Nat.le_refl _) _ _) (Nat.le_refl _) _ _) (Nat.le_refl _) _ _) (Nat.le_refl _) _ _) (Nat.le_refl _) _ _) (Nat.le_refl _) _ _) (Nat.le_refl _) _ _)) hw (Nat.le_refl _),
                    Lib.hid fun w' hw => Row.only hB1 (OnlyB.trans ((((((((((OnlyB.of_ext (Ext.refl w6)).setCell 0 _).setCell 1 _).setCell 2 _).setCell 3 _).setCell 4 _).setCell 5 _).setCell 6 _).setCell 7 _).setCell 8 _) hw) (fun b' off' e _ => by have := hB4 _ e; simp at this; omega),
                    Lib.hid ⟨fresh_weak hA4 (Nat.le_refl _), fresh_weak hB4 (by have := hx45.size; simp; omega), hA2, hA3, hB2, hB3⟩, (Ext.setCell_ (Ext.setCell_ (Ext.setCell_ (Ext.setCell_ (Ext.setCell_ (Ext.setCell_ (Ext.setCell_ (Ext.setCell_ (Ext.setCell_ hx46 hx45.size _ _) hx45.size _ _) hx45.size _ _) hx45.size _ _) hx45.size _ _) hx45.size _ _) hx45.size _ _) hx45.size _ _) hx45.size _ _)⟩
                · have hx45 : Ext w4 w5 := (Ext.drew_ (Ext.alloc_ (Ext.refl w4) _)).trans hx5
                  have hx46 := hx45.trans hx6
                  have hA6 := hA1.below hx6 (Nat.le_refl _)
                  have hs5 : w4.heap.size + 1 ≤ w5.heap.size := by have := hx5.size; simpa using this
                  exact ⟨_, A1, c1, B1, d1, rfl, ((((((((((hbx).setCell 0 _).setCell 1 _).setCell 2 _).setCell 3 _).setCell 4 _).setCell 5 _).setCell 6 _).setCell 7 _).setCell 8 _), Nat.le_refl _,
                    Lib.hid fun w' hw => Row.only hA6 (OnlyB.trans ((((((((((OnlyB.of_ext (Ext.refl w6)).setCell 0 _).setCell 1 _).setCell 2 _).setCell 3 _).setCell 4 _).setCell 5 _).setCell 6 _).setCell 7 _).setCell 8 _) hw) (fun b' off' e _ => by have := hA4 _ e; simp at this; omega),
                    Lib.hid fun w' hw => Row.only hB1 (OnlyB.trans ((((((((((OnlyB.of_ext (Ext.refl w6)).setCell 0 _).setCell 1 _).setCell 2 _).setCell 3 _).setCell 4 _).setCell 5 _).setCell 6 _).setCell 7 _).setCell 8 _) hw) (fun b' off' e _ => by have := hB4 _ e; dsimp only at this; omega),
                    Lib.hid ⟨fresh_weak hA4 (by simp), fresh_weak hB4 hx45.size, hA2, hA3, hB2, hB3⟩, (Ext.setCell_ (Ext.setCell_ (Ext.setCell_ (Ext.setCell_ (Ext.setCell_ (Ext.setCell_ (Ext.setCell_ (Ext.setCell_ (Ext.setCell_ hx46 (Nat.le_refl _) _ _) (Nat.le_refl _) _ _) (Nat.le_refl _) _ _) (Nat.le_refl _) _ _) (Nat.le_refl _) _ _) (Nat.le_refl _) _ _) (Nat.le_refl _) _ _) (Nat.le_refl _) _ _) (Nat.le_refl _) _ _)⟩
              case rest =>
                obtain ⟨g, A1, c1, B1, d1, rfl, hbg, hg4, HRA, HRB, HFR, hx4c⟩ := hcut
                have hbr := hb4.out.ext hx4c
                have HR1 : Hid (halfF l = (numP (textOf run)).map fun r => (joinF (l.take f), joinF (l.drop t), r.1, r.2)) := Lib.hid (by rw [HH.out, HA.out]; rfl)
                clear HH HA HG HST HJA HJB hi1 hi2 hi3 hi4 hi5 hi6 hi7
                go_wp2_with fail
                refine (number_ g _ _ _ _ _ _ hbg (by rw [show (⟨(textOf run).toArray⟩ : ByteArray).size = (textOf run).length from rfl]; omega)).mono ?_
                rw [show ((⟨(textOf run).toArray⟩ : ByteArray).data.toList) = textOf run from rfl]
                intro e w7 hN
                cases hnp : numP (textOf run) with
                | none =>
                  rw [hnp] at hN HR1
                  obtain ⟨rfl, hon⟩ := hN
                  go_wp2
                  refine ⟨rfl, ?_⟩
                  rw [HR1.out]
                  exact ⟨rfl, OnlyB.ext hon (hx14.trans hx4c) (by omega)⟩
                | some r =>
                  obtain ⟨n, bb⟩ := r
                  rw [hnp] at hN HR1
                  obtain ⟨rfl, hb7, hon⟩ := hN
                  have HRR := Lib.hid hb7.range
                  have HB7 := Lib.hid (OnlyB.box hon hbr (by omega))
                  clear hnp
                  go_wp2_with (first
                    | (refine wpList_load_mid rfl 28 (.tmp 8) rfl g 0 rfl (patC (.slice A1 (joinF (l.take f)).length c1) (.slice B1 (joinF (l.drop t)).length d1) nilS nilS n) _ HRR.out Tryz.underlying28 rfl infoPat ?_)
                    | (refine wpList_store_row rfl 28 (.tmp 2) (.tmp 56) rfl w.heap.size (patC (.slice A1 (joinF (l.take f)).length c1) (.slice B1 (joinF (l.drop t)).length d1) nilS nilS n).toArray rfl rfl _ _ HB7.out infoPat rfl pat_one ?_))
                  have hb8 := HB7.out.set (patC (.slice A1 (joinF (l.take f)).length c1) (.slice B1 (joinF (l.drop t)).length d1) nilS nilS n).toArray
                  refine bodyPost_ret (results_half rfl _ _ w.heap.size _ rfl hb8 rfl) rfl ?_
                  rw [HR1.out]
                  obtain ⟨f1, f2, f3, f4, f5, f6⟩ := HFR.out
                  have hws : w.heap.size < w4.heap.size := by omega
                  have hE := OnlyB.ext hon (hx14.trans hx4c) (by omega)
                  exact ⟨A1, c1, B1, d1, rfl, Row.setRow (HRA.out _ hon) (fun b' off' e => by have := f1 _ e; simp at this; omega), Row.setRow (HRB.out _ hon) (fun b' off' e => by have := f2 _ e; simp at this; omega), fresh_weak f1 (by omega), fresh_weak f2 (by omega), f3, f4, f5, f6, Ext.setRow hE (Nat.le_refl _) _⟩
            · have H0 : Hid (halfF l = none) := Lib.hid (by rw [HH.out, hany]; rfl)
              clear hany
              go_wp2_with fail
              refine (must_no _).mono ?_; rintro e w5 ⟨rfl, rfl⟩
              go_wp2
              refine ⟨rfl, ?_⟩
              rw [H0.out]
              exact ⟨rfl, (hxx.trans hz).trans hx4⟩
          · skip
            go_wp2_with fail
            (refine (contains_n _ _ _ (l.drop t) _ (by first | (simp; done) | (simp; omega)) (by first | exact row_drop (hr1.below hz (Nat.le_refl _)) t | (rw [List.drop_of_length_le (by omega)]; exact Row.nil)) (by simp; omega)).mono ?_; rintro e w4 ⟨rfl, hx4⟩)
            cases hany : (l.drop t).any (isK 4)
            · have HA := Lib.hid hany
              clear hany
              go_wp2_with fail
              refine (must_ok _).mono ?_; rintro e w5 ⟨rfl, rfl⟩
              have hz4 := hz.trans hx4
              clear hz hx4
              have HJA : Hid (∀ W, Ext w4 W → Calls Tryz.prog 96 #[.slice (some ⟨b, off, none⟩) f c] W fun e w' => ∃ B d, e = .returned (.slice B (joinF (l.take f)).length d) ∧ Row w' B (pcsV (joinF (l.take f))) ∧ (joinF (l.take f)).length ≤ d ∧ Okc B d ∧ Fresh W B ∧ Ext W w') := Lib.hid (fun W hW => joined_n _ _ f (l.take f) W (by simp; omega) (row_take (hr1.below (hz4.trans hW) (Nat.le_refl _)) f) (by simp; omega) (Nat.le_trans (tot_take _ _) (by omega)))
              have HJB : Hid (∀ W, Ext w4 W → Calls Tryz.prog 96 #[.slice (some ⟨b, off + t * 2, none⟩) (l.length - t) (c - t)] W fun e w' => ∃ B d, e = .returned (.slice B (joinF (l.drop t)).length d) ∧ Row w' B (pcsV (joinF (l.drop t))) ∧ (joinF (l.drop t)).length ≤ d ∧ Okc B d ∧ Fresh W B ∧ Ext W w') := Lib.hid (fun W hW => joined_n _ _ (l.length - t) (l.drop t) W (by simp) (row_drop (hr1.below (hz4.trans hW) (Nat.le_refl _)) t) (by simp; omega) (Nat.le_trans (tot_drop _ _) (by omega)))
              have hb4 := Lib.hid (hb1.ext hz4)
              have hx14 := hxx.trans hz4
              have hs4 : w.heap.size + 1 ≤ w4.heap.size := Nat.le_trans hs1 hz4.size
              clear hb1 hz4 hr1 hr hxx hs1
              have hi1 : (0 : Int) ≤ (f : Int) := by omega
              have hi2 : (f : Int) ≤ (c : Int) := by omega
              have hi3 : (0 : Int) ≤ (t : Int) := by omega
              have hi4 : (t : Int) ≤ (c : Int) := by omega
              have hi5 : (t : Int) ≤ (l.length : Int) := by omega
              have hi6 : (f : Int) ≤ (l.length : Int) := by omega
              have hi7 : f ≤ c := by omega
              go_upto_region 10 with fail
              go_cut [8] (fun v wx => ∃ (g : Nat) (A1 : Option Addr) (c1 : Nat) (B1 : Option Addr) (d1 : Nat), v = .pointer (some ⟨g, 0, none⟩) ∧ Box wx g 28 (patC (.slice A1 (joinF (l.take f)).length c1) (.slice B1 (joinF (l.drop t)).length d1) nilS nilS zeroN) ∧ w4.heap.size ≤ g ∧
                Hid (∀ w', OnlyB g wx w' → Row w' A1 (pcsV (joinF (l.take f)))) ∧ Hid (∀ w', OnlyB g wx w' → Row w' B1 (pcsV (joinF (l.drop t)))) ∧ Hid (Fresh w4 A1 ∧ Fresh w4 B1 ∧ (joinF (l.take f)).length ≤ c1 ∧ Okc A1 c1 ∧ (joinF (l.drop t)).length ≤ d1 ∧ Okc B1 d1) ∧ Ext w4 wx)
              case first =>
                go_region_held3 (fun _ => True) (trivial) (first
                  | (go_at_call 96; with_reducible refine (HJA.out _ ?_).mono ?_; (first | exact Ext.drew_ (Ext.refl _) | exact Ext.drew_ (Ext.alloc_ (Ext.refl _) _) | exact Ext.trans (Ext.drew_ (Ext.refl _)) (by assumption) | exact Ext.trans (Ext.drew_ (Ext.alloc_ (Ext.refl _) _)) (by assumption) | exact Ext.alloc_ (Ext.trans (Ext.drew_ (Ext.refl _)) (by assumption)) _ | exact Ext.refl _); rintro e w5 ⟨A1, c1, rfl, hA1, hA2, hA3, hA4, hx5⟩; (first | (have hbx := Box.after hx5; obtain ⟨q0, q1, q2, q3, q4, q5, q6, q7, q8, r0, r1, r2, r3, r4, r5, r6, r7, r8⟩ := box9 hbx) | (have hbx := Box.after' hx5; obtain ⟨q0, q1, q2, q3, q4, q5, q6, q7, q8, r0, r1, r2, r3, r4, r5, r6, r7, r8⟩ := box9 hbx) | (rename Box _ _ _ _ => hbz; have hbx := hbz.ext hx5; obtain ⟨q0, q1, q2, q3, q4, q5, q6, q7, q8, r0, r1, r2, r3, r4, r5, r6, r7, r8⟩ := box9 hbx) | skip))
                  | (go_at_call 96; with_reducible refine (HJB.out _ ?_).mono ?_; (first | exact Ext.drew_ (Ext.refl _) | exact Ext.drew_ (Ext.alloc_ (Ext.refl _) _) | exact Ext.trans (Ext.drew_ (Ext.refl _)) (by assumption) | exact Ext.trans (Ext.drew_ (Ext.alloc_ (Ext.refl _) _)) (by assumption) | exact Ext.alloc_ (Ext.trans (Ext.drew_ (Ext.refl _)) (by assumption)) _ | exact Ext.refl _); rintro e w6 ⟨B1, d1, rfl, hB1, hB2, hB3, hB4, hx6⟩; (first | (have hbx := Box.after hx6; obtain ⟨q0, q1, q2, q3, q4, q5, q6, q7, q8, r0, r1, r2, r3, r4, r5, r6, r7, r8⟩ := box9 hbx) | (have hbx := Box.after' hx6; obtain ⟨q0, q1, q2, q3, q4, q5, q6, q7, q8, r0, r1, r2, r3, r4, r5, r6, r7, r8⟩ := box9 hbx) | (rename Box _ _ _ _ => hbz; have hbx := hbz.ext hx6; obtain ⟨q0, q1, q2, q3, q4, q5, q6, q7, q8, r0, r1, r2, r3, r4, r5, r6, r7, r8⟩ := box9 hbx) | skip)))
                all_goals (go_wp2_with fail; go_meet)
                · have hn1 := Box.new w6 28 (patC (.slice A1 (joinF (l.take f)).length c1) (.slice B1 (joinF (l.drop t)).length d1) nilS nilS zeroN)
                  have hx45 := (Ext.drew_ (Ext.refl w4)).trans hx5
                  have hx46 := hx45.trans hx6
                  have hA6 := hA1.below hx6 (Nat.le_refl _)
                  exact ⟨_, A1, c1, B1, d1, rfl, hn1, hx46.size, Lib.hid fun w' hw => Row.past hA6 (Ext.alloc_ (Ext.refl w6) _) hw (Nat.le_refl _), Lib.hid fun w' hw => Row.past hB1 (Ext.alloc_ (Ext.refl w6) _) hw (Nat.le_refl _), Lib.hid ⟨fresh_weak hA4 (Nat.le_refl _), fresh_weak hB4 hx45.size, hA2, hA3, hB2, hB3⟩, hx46.alloc_ _⟩
                · have hx45 := (Ext.drew_ (Ext.refl w4)).trans hx5
                  have hx56 := (Ext.alloc_ (Ext.refl w5) _).trans hx6
                  have hx46 := hx45.trans hx56
                  have hsz : w5.heap.size < w6.heap.size := hbx.lt
                  exact ⟨_, A1, c1, B1, d1, rfl, ((((((((((hbx).setCell 0 _).setCell 1 _).setCell 2 _).setCell 3 _).setCell 4 _).setCell 5 _).setCell 6 _).setCell 7 _).setCell 8 _), hx45.size,
                    Lib.hid fun w' hw => Row.past hA1 ((Ext.setCell_ (Ext.setCell_ (Ext.setCell_ (Ext.setCell_ (Ext.setCell_ (Ext.setCell_ (Ext.setCell_ (Ext.setCell_ (Ext.setCell_ hx56 (Nat.le_refl _) _ _) (Nat.le_refl _) _ _) (Nat.le_refl _) _ _) (Nat.le_refl _) _ _) (Nat.le_refl _) _ _) (Nat.le_refl _) _ _) (Nat.le_refl _) _ _) (Nat.le_refl _) _ _) (Nat.le_refl _) _ _)) hw (Nat.le_refl _),
                    Lib.hid fun w' hw => Row.only hB1 (OnlyB.trans ((((((((((OnlyB.of_ext (Ext.refl w6)).setCell 0 _).setCell 1 _).setCell 2 _).setCell 3 _).setCell 4 _).setCell 5 _).setCell 6 _).setCell 7 _).setCell 8 _) hw) (fun b' off' e _ => by have := hB4 _ e; simp at this; omega),
                    Lib.hid ⟨fresh_weak hA4 (Nat.le_refl _), fresh_weak hB4 (by have := hx45.size; simp; omega), hA2, hA3, hB2, hB3⟩, (Ext.setCell_ (Ext.setCell_ (Ext.setCell_ (Ext.setCell_ (Ext.setCell_ (Ext.setCell_ (Ext.setCell_ (Ext.setCell_ (Ext.setCell_ hx46 hx45.size _ _) hx45.size _ _) hx45.size _ _) hx45.size _ _) hx45.size _ _) hx45.size _ _) hx45.size _ _) hx45.size _ _) hx45.size _ _)⟩
                · have hx45 : Ext w4 w5 := (Ext.drew_ (Ext.alloc_ (Ext.refl w4) _)).trans hx5
                  have hx46 := hx45.trans hx6
                  have hA6 := hA1.below hx6 (Nat.le_refl _)
                  have hs5 : w4.heap.size + 1 ≤ w5.heap.size := by have := hx5.size; simpa using this
                  exact ⟨_, A1, c1, B1, d1, rfl, ((((((((((hbx).setCell 0 _).setCell 1 _).setCell 2 _).setCell 3 _).setCell 4 _).setCell 5 _).setCell 6 _).setCell 7 _).setCell 8 _), Nat.le_refl _,
                    Lib.hid fun w' hw => Row.only hA6 (OnlyB.trans ((((((((((OnlyB.of_ext (Ext.refl w6)).setCell 0 _).setCell 1 _).setCell 2 _).setCell 3 _).setCell 4 _).setCell 5 _).setCell 6 _).setCell 7 _).setCell 8 _) hw) (fun b' off' e _ => by have := hA4 _ e; simp at this; omega),
                    Lib.hid fun w' hw => Row.only hB1 (OnlyB.trans ((((((((((OnlyB.of_ext (Ext.refl w6)).setCell 0 _).setCell 1 _).setCell 2 _).setCell 3 _).setCell 4 _).setCell 5 _).setCell 6 _).setCell 7 _).setCell 8 _) hw) (fun b' off' e _ => by have := hB4 _ e; dsimp only at this; omega),
                    Lib.hid ⟨fresh_weak hA4 (by simp), fresh_weak hB4 hx45.size, hA2, hA3, hB2, hB3⟩, (Ext.setCell_ (Ext.setCell_ (Ext.setCell_ (Ext.setCell_ (Ext.setCell_ (Ext.setCell_ (Ext.setCell_ (Ext.setCell_ (Ext.setCell_ hx46 (Nat.le_refl _) _ _) (Nat.le_refl _) _ _) (Nat.le_refl _) _ _) (Nat.le_refl _) _ _) (Nat.le_refl _) _ _) (Nat.le_refl _) _ _) (Nat.le_refl _) _ _) (Nat.le_refl _) _ _) (Nat.le_refl _) _ _)⟩
              case rest =>
                obtain ⟨g, A1, c1, B1, d1, rfl, hbg, hg4, HRA, HRB, HFR, hx4c⟩ := hcut
                have hbr := hb4.out.ext hx4c
                have HR1 : Hid (halfF l = (numP (textOf run)).map fun r => (joinF (l.take f), joinF (l.drop t), r.1, r.2)) := Lib.hid (by rw [HH.out, HA.out]; rfl)
                clear HH HA HG HST HJA HJB hi1 hi2 hi3 hi4 hi5 hi6 hi7
                go_wp2_with fail
                refine (number_ g _ _ _ _ _ _ hbg (by rw [show (⟨(textOf run).toArray⟩ : ByteArray).size = (textOf run).length from rfl]; omega)).mono ?_
                rw [show ((⟨(textOf run).toArray⟩ : ByteArray).data.toList) = textOf run from rfl]
                intro e w7 hN
                cases hnp : numP (textOf run) with
                | none =>
                  rw [hnp] at hN HR1
                  obtain ⟨rfl, hon⟩ := hN
                  go_wp2
                  refine ⟨rfl, ?_⟩
                  rw [HR1.out]
                  exact ⟨rfl, OnlyB.ext hon (hx14.trans hx4c) (by omega)⟩
                | some r =>
                  obtain ⟨n, bb⟩ := r
                  rw [hnp] at hN HR1
                  obtain ⟨rfl, hb7, hon⟩ := hN
                  have HRR := Lib.hid hb7.range
                  have HB7 := Lib.hid (OnlyB.box hon hbr (by omega))
                  clear hnp
                  go_wp2_with (first
                    | (refine wpList_load_mid rfl 28 (.tmp 8) rfl g 0 rfl (patC (.slice A1 (joinF (l.take f)).length c1) (.slice B1 (joinF (l.drop t)).length d1) nilS nilS n) _ HRR.out Tryz.underlying28 rfl infoPat ?_)
                    | (refine wpList_store_row rfl 28 (.tmp 2) (.tmp 56) rfl w.heap.size (patC (.slice A1 (joinF (l.take f)).length c1) (.slice B1 (joinF (l.drop t)).length d1) nilS nilS n).toArray rfl rfl _ _ HB7.out infoPat rfl pat_one ?_))
                  have hb8 := HB7.out.set (patC (.slice A1 (joinF (l.take f)).length c1) (.slice B1 (joinF (l.drop t)).length d1) nilS nilS n).toArray
                  refine bodyPost_ret (results_half rfl _ _ w.heap.size _ rfl hb8 rfl) rfl ?_
                  rw [HR1.out]
                  obtain ⟨f1, f2, f3, f4, f5, f6⟩ := HFR.out
                  have hws : w.heap.size < w4.heap.size := by omega
                  have hE := OnlyB.ext hon (hx14.trans hx4c) (by omega)
                  exact ⟨A1, c1, B1, d1, rfl, Row.setRow (HRA.out _ hon) (fun b' off' e => by have := f1 _ e; simp at this; omega), Row.setRow (HRB.out _ hon) (fun b' off' e => by have := f2 _ e; simp at this; omega), fresh_weak f1 (by omega), fresh_weak f2 (by omega), f3, f4, f5, f6, Ext.setRow hE (Nat.le_refl _) _⟩
            · have H0 : Hid (halfF l = none) := Lib.hid (by rw [HH.out, hany]; rfl)
              clear hany
              go_wp2_with fail
              refine (must_no _).mono ?_; rintro e w5 ⟨rfl, rfl⟩
              go_wp2
              refine ⟨rfl, ?_⟩
              rw [H0.out]
              exact ⟨rfl, (hxx.trans hz).trans hx4⟩
end Go.Proofs.YtdkjkbbibdppoaaGreatDoor.Pat
