/- The document's example records: each may be. -/
import Derived.Test.YtdkjkbbibdppoaaGreatDoorLGoodW
import Derived.Test.YtdkjkbbibdppoaaGreatDoorJLocA
namespace Go.Proofs.YtdkjkbbibdppoaaGreatDoor.Loc
open Go.RowKit Utf All Small Strs Build EncC Pat Cls Dec Go.Proofs.YtdkjkbbibdppoaaGreatDoor.Sys
set_option linter.unusedVariables false
set_option linter.unusedSimpArgs false

theorem ba_inj {t u : List UInt8} (h : (⟨t.toArray⟩ : ByteArray) = ⟨u.toArray⟩) : t = u := by
  injection h with h
  simpa using congrArg Array.toList h
theorem mem_dB {l : Loc} {t : List UInt8} : (⟨t.toArray⟩ : ByteArray) ∈ dB l ↔ t ∈ l.d := by
  unfold dB
  rw [List.mem_map]
  constructor
  · rintro ⟨u, hu, he⟩; rw [← ba_inj he]; exact hu
  · intro h; exact ⟨t, h, rfl⟩
theorem idx_out {l : Loc} {t : List UInt8} (h : t ∉ l.d) : ¬ 0 ≤ Lib.idxOfS (dB l) ⟨t.toArray⟩ := by
  rw [Lib.idxOfS_nonneg_iff, mem_dB]; exact h
theorem sign_dec {l : Loc} (h : l.r.decimal ∉ l.d) : signZ l ⟨l.r.decimal.toArray⟩ = 10 := by
  unfold signZ; rw [if_neg (idx_out h), if_pos rfl]
theorem sign_grp {l : Loc} (h : l.r.group ∉ l.d) (hd : l.r.group ≠ l.r.decimal) (hg : grpZ l = true) : signZ l ⟨l.r.group.toArray⟩ = 11 := by
  unfold signZ; rw [if_neg (idx_out h), if_neg (fun e => hd (ba_inj e)), if_pos ⟨hg, rfl⟩]
theorem sign_min {l : Loc} (h : l.r.minus ∉ l.d) (hd : l.r.minus ≠ l.r.decimal) (hg : grpZ l = true → l.r.minus ≠ l.r.group) : signZ l ⟨l.r.minus.toArray⟩ = 12 := by
  unfold signZ; rw [if_neg (idx_out h), if_neg (fun e => hd (ba_inj e)), if_neg (fun e => hg e.1 (ba_inj e.2)), if_pos rfl]
theorem sign_no {l : Loc} {t : List UInt8} (h : t ∉ l.d) (hd : t ≠ l.r.decimal) (hg : grpZ l = true → t ≠ l.r.group) (hm : t ≠ l.r.minus) : signZ l ⟨t.toArray⟩ = -1 := by
  unfold signZ; rw [if_neg (idx_out h), if_neg (fun e => hd (ba_inj e)), if_neg (fun e => hg e.1 (ba_inj e.2)), if_neg (fun e => hm (ba_inj e))]

def sysAt (i : Nat) : List UInt8 := (nameAt i).data.toList
def digsAt (i : Nat) : List (List UInt8) := (List.range 10).map fun (d : Nat) => digB (nameAt i) (d : Int)
theorem sys_ba (s : ByteArray) : (⟨s.data.toList.toArray⟩ : ByteArray) = s := bytes_ext (by simp)
/-- a record of given parts -/
def mkR (s j i m a b : Nat) (g : List UInt8) : Rec := ⟨[120, 120], pats.getD j [], sysAt s, decs.getD i [], g, mins.getD m [], pcts.getD a [], curs.getD b []⟩
def mkL (s j i m a b : Nat) (g : List UInt8) : Loc := ⟨mkR s j i m a b g, patAt j, digs (mkR s j i m a b g)⟩
theorem mk_d (s j i m a b : Nat) (g : List UInt8) : (mkL s j i m a b g).d = digsAt s := by
  show digs (mkR s j i m a b g) = digsAt s
  unfold digs digsAt
  show (List.range 10).map (fun (d : Nat) => digB ⟨(nameAt s).data.toList.toArray⟩ (d : Int)) = _
  rw [sys_ba]
def allGrps : List (List UInt8) := grps ++ [[32]]
def allDigs : List (List UInt8) := (List.range 20).flatMap digsAt
theorem digs_sub {s : Nat} (h : s < 20) {t : List UInt8} (ht : t ∈ digsAt s) : t ∈ allDigs := List.mem_flatMap.2 ⟨s, List.mem_range.2 h, ht⟩
theorem dec_out : ∀ i : Fin 4, decs.getD i.val [] ∉ allDigs := by decide +kernel
theorem min_out : ∀ i : Fin 4, mins.getD i.val [] ∉ allDigs ∧ mins.getD i.val [] ∉ allGrps ∧ mins.getD i.val [] ∉ decs := by decide +kernel
theorem grp_out : ∀ t ∈ allGrps, t ∉ allDigs ∧ symL t = true ∧ t.length ≤ 1000 := by decide +kernel
theorem dec_sym : ∀ i : Fin 4, symL (decs.getD i.val []) = true ∧ (decs.getD i.val []).length ≤ 1000 := by decide +kernel
theorem min_sym : ∀ i : Fin 4, symL (mins.getD i.val []) = true ∧ (mins.getD i.val []).length ≤ 1000 := by decide +kernel
theorem pct_word : ∀ i : Fin 2, wordL (pcts.getD i.val []) = true ∧ (pcts.getD i.val []).length ≤ 1000 := by decide +kernel
theorem cur_word : ∀ i : Fin 4, wordL (curs.getD i.val []) = true ∧ (curs.getD i.val []).length ≤ 1000 := by decide +kernel
def affsP (p : Pt) : List (List Pc) := [p.pre, p.suf, p.npre, p.nsuf]
def txtC (cur per : List UInt8) (q : List Pc) : List UInt8 := resF cur per [] q
/-- what the affixes bear -/
def toks : List (List UInt8) := [[36], [226, 130, 172], [67], [72], [70], [107, 204, 129], [114], [120], [40], [41], [37], [217, 170], [121], [35]]
theorem toks_out : ∀ t ∈ toks, t ∉ allDigs ∧ t ∉ allGrps ∧ t ∉ decs ∧ t ∉ mins := by decide +kernel
def patOk (p : Pt) : Bool := decide (0 ≤ p.num.prim) && decide (cntK 3 p.pre = 0) && decide (cntK 3 p.suf = 0) && decide (cntK 3 p.pre + cntK 3 p.suf + cntK 3 p.npre + cntK 3 p.nsuf = 1) &&
  (affsP p).all (fun q => decide (q.length ≤ 1000) && q.all fun x => decide (0 ≤ x.1) && decide (x.1 < 4) && decide (x.2.length ≤ 6) && (!decide (x.1 = 0) || plainL (charsL x.2)))
theorem pats_ok : ∀ j : Fin 10, patOk (patAt j.val) = true := by decide +kernel
def txtOk (p : Pt) : Bool := (List.range 2).all fun a => (List.range 4).all fun b => (affsP p).all fun q =>
  decide ((txtC (curs.getD b []) (pcts.getD a []) q).length ≤ 64) && (splitS (txtC (curs.getD b []) (pcts.getD a []) q)).all fun t => toks.contains t
theorem txts_ok : ∀ j : Fin 10, txtOk (patAt j.val) = true := by decide +kernel
theorem mem_getD {ts : List (List UInt8)} {k : Nat} (h : k < ts.length) : ts.getD k [] ∈ ts := by
  rw [List.getD_eq_getElem?_getD, List.getElem?_eq_getElem h]; exact List.getElem_mem h
theorem may_mk (s j i m a b : Nat) (g : List UInt8) (hs : s < 20) (hj : j < 10) (hi : i < 4) (hm : m < 4) (ha : a < 2) (hb : b < 4)
    (hg : if (patAt j).num.prim > 0 then g ∈ allGrps ∧ g ≠ decs.getD i [] else g = []) : MayL (mkL s j i m a b g) := by
  have hp := pats_ok ⟨j, hj⟩
  have ht := txts_ok ⟨j, hj⟩
  unfold patOk at hp
  unfold txtOk at ht
  simp only [Bool.and_eq_true, Bool.or_eq_true, decide_eq_true_eq, List.all_eq_true, Bool.not_eq_true', decide_eq_false_iff_not] at hp ht
  obtain ⟨⟨⟨⟨_, p0⟩, p1⟩, p2⟩, p3⟩ := hp
  have hT := ht a (List.mem_range.2 ha) b (List.mem_range.2 hb)
  have hd := mk_d s j i m a b g
  have dout : ∀ {t : List UInt8}, t ∉ allDigs → t ∉ (mkL s j i m a b g).d := fun {t} h h' => by rw [hd] at h'; exact h (digs_sub hs h')
  have hgz : grpZ (mkL s j i m a b g) = true ↔ (patAt j).num.prim > 0 := by
    unfold grpZ
    rw [decide_eq_true_eq]; exact Iff.rfl
  have hdec := dec_out ⟨i, hi⟩
  have hds := dec_sym ⟨i, hi⟩
  have hmo := min_out ⟨m, hm⟩
  have hms := min_sym ⟨m, hm⟩
  have hpw := pct_word ⟨a, ha⟩
  have hcw := cur_word ⟨b, hb⟩
  have hdm : decs.getD i [] ∈ decs := mem_getD hi
  have hmm : mins.getD m [] ∈ mins := mem_getD hm
  have hgl : g.length ≤ 1000 := by
    split at hg
    · exact (grp_out g hg.1).2.2
    · subst hg; simp
  have sD : signZ (mkL s j i m a b g) ⟨(mkL s j i m a b g).r.decimal.toArray⟩ = 10 := sign_dec (dout hdec)
  have sM : signZ (mkL s j i m a b g) ⟨(mkL s j i m a b g).r.minus.toArray⟩ = 12 := sign_min (dout hmo.1) (fun (e : mins.getD m [] = decs.getD i []) => hmo.2.2 (show mins.getD m [] ∈ decs by rw [e]; exact hdm))
    (fun hz e => hmo.2.1 (by
      rw [if_pos (hgz.1 hz)] at hg
      have e' : mins.getD m [] = g := e
      rw [e']; exact hg.1))
  refine ⟨⟨?_, fun q hq => (p3 q hq).1, fun q hq x hx => by have := ((p3 q hq).2 x hx).1.2; omega, hds.2, hgl, hms.2, hpw.2, hcw.2⟩, p0, p1, p2, ?_, hds.1, ?_, hms.1, .inl hpw.1, .inl hcw.1, fun q hq x hx h0 => ?_, fun q hq => (hT q hq).1, ?_, fun hz => ?_, ?_, fun q hq t htt => ?_⟩
  · rw [hd]; simp [digsAt]
  · show (⟨(nameAt s).data.toList.toArray⟩ : ByteArray) ∈ names
    rw [sys_ba]; unfold nameAt
    rw [List.getD_eq_getElem?_getD, List.getElem?_eq_getElem (show s < names.length from hs)]
    exact List.getElem_mem _
  · cases hz : grpZ (mkL s j i m a b g)
    · have hn : ¬ (patAt j).num.prim > 0 := fun h => by rw [hgz.2 h] at hz; cases hz
      rw [if_neg hn] at hg
      show (if false = true then _ else g = [])
      rw [if_neg (by simp)]; exact hg
    · rw [if_pos (hgz.1 hz)] at hg
      show (if true = true then symL g = true else _)
      rw [if_pos rfl]; exact (grp_out g hg.1).2.1
  · exact (((p3 q hq).2 x hx).2).resolve_left (fun h => h h0)
  · rw [sD]; omega
  · rw [if_pos (hgz.1 hz)] at hg
    have : signZ (mkL s j i m a b g) ⟨(mkL s j i m a b g).r.group.toArray⟩ = 11 := sign_grp (dout (grp_out g hg.1).1) hg.2 hz
    rw [this]; omega
  · rw [sM]; omega
  · have hk : t ∈ toks := by simpa using (hT q hq).2 t htt
    obtain ⟨t1, t2, t3, t4⟩ := toks_out t hk
    refine sign_no (dout t1) (fun e => t3 ?_) (fun hz e => t2 ?_) (fun e => t4 ?_)
    · have e' : t = decs.getD i [] := e
      rw [e']; exact hdm
    · rw [if_pos (hgz.1 hz)] at hg
      have e' : t = g := e
      rw [e']; exact hg.1
    · have e' : t = mins.getD m [] := e
      rw [e']; exact hmm
/-- the record that Good makes is of this shape -/
theorem good_mk (v0 v1 v2 v3 v4 v5 : Int) : ∃ s j i m a b g, s < 20 ∧ j < 10 ∧ i < 4 ∧ m < 4 ∧ a < 2 ∧ b < 4 ∧ (if (patAt j).num.prim > 0 then g ∈ allGrps ∧ g ≠ decs.getD i [] else g = []) ∧
    goodR v0 v1 v2 v3 v4 v5 = mkR s j i m a b g ∧ (aroundF v1 10).toNat = j := by
  have h0 := aroundF_bd v0 20 (by omega)
  have h1 := aroundF_bd v1 10 (by omega)
  have h2 := aroundF_bd v2 4 (by omega)
  have h3 := aroundF_bd v3 6 (by omega)
  have h4 := aroundF_bd v4 4 (by omega)
  have h5 := aroundF_bd v5 2 (by omega)
  have h6 := aroundF_bd v5 4 (by omega)
  refine ⟨(aroundF v0 20).toNat, (aroundF v1 10).toNat, (aroundF v2 4).toNat, (aroundF v4 4).toNat, (aroundF v5 2).toNat, (aroundF v5 4).toNat, goodGrp v2 v3 (patAt (aroundF v1 10).toNat), by omega, by omega, by omega, by omega, by omega, by omega, ?_, rfl, rfl⟩
  unfold goodGrp
  split
  · have hm : pickL grps v3 ∈ grps := mem_getD (show (aroundF v3 6).toNat < grps.length by simp [grps]; omega)
    have hdi : pickL decs v2 ∈ decs := mem_getD (show (aroundF v2 4).toNat < decs.length by simp [decs]; omega)
    have hsp : ∀ t ∈ decs, ([32] : List UInt8) ≠ t := by decide
    refine ⟨?_, ?_⟩
    · split
      · simp [allGrps]
      · simp [allGrps, hm]
    · show _ ≠ pickL decs v2
      split
      · exact hsp _ hdi
      · assumption
  · rfl
end Go.Proofs.YtdkjkbbibdppoaaGreatDoor.Loc
