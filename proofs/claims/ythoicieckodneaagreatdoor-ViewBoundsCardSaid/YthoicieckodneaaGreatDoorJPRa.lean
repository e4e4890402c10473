/- Joined by wip/join.py: PRn PRw PRq. -/
import Derived.Test.YthoicieckodneaaGreatDoorJPat4
/- The document's own reading of patterns: a number's signs, one after the other. -/
namespace Go.Proofs.YthoicieckodneaaGreatDoor.Pat
open Go.RowKit Utf All Small Strs Build EncC
set_option linter.unusedVariables false
set_option linter.unusedSimpArgs false

/-- where the reading of a number stands: behind the point?; signs since the last comma, in the last whole group; commas, signs, noughts ahead of the point; noughts, signs behind it -/
structure NSt where
  point : Bool
  since : Nat
  group : Nat
  commas : Nat
  whole : Nat
  zeros : Nat
  minf : Nat
  maxf : Nat
deriving DecidableEq
def st0 : NSt := ⟨false, 0, 0, 0, 0, 0, 0, 0⟩
/-- one sign more; none: it cannot stand there -/
def stepN (s : NSt) (c : UInt8) : Option NSt :=
  if c = 46 then (if s.point = true ∨ s.whole = 0 ∨ (0 < s.commas ∧ s.since = 0) then none else some { s with point := true })
  else if s.point = true then (if c = 44 ∨ (c = 48 ∧ s.minf < s.maxf) then none else some { s with maxf := s.maxf + 1, minf := if c = 48 then s.minf + 1 else s.minf })
  else if c = 44 then (if s.since = 0 then none else some { s with group := s.since, since := 0, commas := s.commas + 1 })
  else if c = 35 ∧ 0 < s.zeros then none
  else some { s with zeros := if c = 48 then s.zeros + 1 else s.zeros, whole := s.whole + 1, since := s.since + 1 }
def runN : NSt → List UInt8 → Option NSt
  | s, [] => some s
  | s, c :: r => match stepN s c with | some t => runN t r | none => none
def endN (s : NSt) : Bool := decide (s.whole ≠ 0) && decide (s.since ≠ 0) && (!s.point || decide (s.maxf ≠ 0))
def numsN (s : NSt) : Nums := ⟨if 0 < s.commas then s.since else 0, if 1 < s.commas then s.group else if 0 < s.commas then s.since else 0, s.zeros, s.minf, s.maxf⟩
def longN (s : NSt) : Bool := decide (64 < s.whole) || decide (64 < s.maxf)
/-- what is told of a core -/
def coreRef (z p q a b : Nat) : Bool := match runN st0 (coreT z p q a b) with
  | some t => endN t && !longN t && (match numP (coreT z p q a b) with | some (n, _) => decide (numsN t = n) | none => false)
  | none => false
theorem ref_all2 : (List.range 7).all (fun z => (List.range 5).all fun p => (List.range 5).all fun q => (List.range 4).all fun a => (List.range 4).all fun b => coreRef z p q a b) = true := by decide +kernel
end Go.Proofs.YthoicieckodneaaGreatDoor.Pat

/- The document's own reading of patterns: the walk of number. (Printed by wip/gen/number.py.) -/
namespace Go.Proofs.YthoicieckodneaaGreatDoor.Pat
open Go.RowKit Utf All Small Strs Build EncC
set_option linter.unusedVariables false
set_option linter.unusedSimpArgs false

/-! ### the walk -/
def pN (n m : Nat) : List Value := patC nilS nilS nilS nilS ⟨0, 0, 0, n, m⟩
theorem u8_eq {c : UInt8} (n : Nat) (hn : n < 256) (h : c = UInt8.ofNat n) : ((c.toNat : Int) == (n : Int)) = true := by
  subst h; simp [UInt8.toNat_ofNat', Nat.mod_eq_of_lt hn]
theorem u8_ne {c : UInt8} (n : Nat) (h : c ≠ UInt8.ofNat n) : ((c.toNat : Int) == (n : Int)) = false := by
  rw [Bool.eq_false_iff]
  intro e
  apply h
  have h1 : (c.toNat : Int) = (n : Int) := eq_of_beq e
  have h2 : c.toNat = n := by omega
  rw [← h2]; simp
theorem step_store_row {ops : Array Oper} {o : Oper} {a : Act} {w : World} {K' : Act → World → Prop} {Q : Exit → Act → World → Prop} {X : Prop} (hgd : o.guard = none) (ty : TypeId) (x y : Operand) (ho : o.op = .store ty x y)
    (g : Nat) (cells : Array Value) (hx : a.eval x = .pointer (some ⟨g, 0, none⟩)) (hy : a.eval y = .agg cells) (t : TypeId) (old : Array Value) (hg : w.heap[g]? = some (.cells old t (0, 0))) (hi : (Tryz.prog.info? ty).map (·.size) = some cells.size)
    (hold : old.size = cells.size) (h1 : cells.all (·.oneCell') = true) (K : K' (a.put o.dst undef) (w.setRow g cells)) : if Region.wanted o (yielded ops a.tmps) = true then o.wp Tryz.prog a w K' Q else X := by
  have hw : Region.wanted o (yielded ops a.tmps) = true := by simp [Region.wanted, hgd]
  rw [if_pos hw]
  exact wp_store_row ty x y ho g cells hx hy t old hg hi hold h1 K
theorem infoP : (Tryz.prog.info? 32).map (·.size) = some 9 := by kernel_rfl
theorem results_num {fn : Func} (h : fn.results = #[.cell 2 32, .tmp 3, .tmp 4]) (tmps : Array Value) (w : World) (g : Nat) (cs : List Value)
    (h2 : tmps.getD 2 undef = .pointer (some ⟨g, 0, none⟩)) (hb : Box w g 32 cs) (hl : cs.length = 9) :
    (results fn tmps).run Tryz.prog w = .ok (.tuple #[.agg cs.toArray, tmps.getD 3 undef, tmps.getD 4 undef]) w := by
  have h2' : tmps[2]?.getD undef = .pointer (some ⟨g, 0, none⟩) := by simpa using h2
  have e1 := run_loadVar_row (P := Tryz.prog) w g _ 32 cs.toArray (0, 0) _ hb Tryz.underlying32 rfl (by rw [infoP]; simp [hl])
  simp [results, h, h2', asAddr, e1]
structure NRel (w wr : World) (n k : Nat) (st : NSt) : Prop where
  b2 : Box wr w.heap.size 32 (pN 0 0)
  b5 : Box wr (w.heap.size + 1) 32 (pN st.minf st.maxf)
  ext : Ext w wr
  kn : k ≤ n
  h1 : st.since ≤ k
  h2 : st.group ≤ k
  h3 : st.commas ≤ k
  h4 : st.whole ≤ k
  h5 : st.zeros ≤ k
  h6 : st.minf ≤ k
  h7 : st.maxf ≤ k
set_option maxHeartbeats 4000000 in
set_option maxRecDepth 1000000 in
theorem number_ref (s : ByteArray) (t : NSt) (w : World) (hs : s.size ≤ 10000) (hrun : runN st0 s.data.toList = some t) (hend : endN t = true) (hlong : longN t = false) :
    Calls Tryz.prog 184 #[.string s] w fun e w' => e = .returned (.tuple #[.agg (patC nilS nilS nilS nilS (numsN t)).toArray, .bool true, .bool false]) ∧ Ext w w' := by
  have HLONG := Lib.hid hlong
  clear hlong
  have hlen : s.data.toList.length = s.size := by simp
  have HRUN := Lib.hid hrun
  have HEND := Lib.hid hend
  clear hrun hend
  have hb2 := (Box.new w 32 (pN 0 0)).alloc (.cells (pN 0 0).toArray 32)
  have hb5 : Box ((w.alloc (.cells (pN 0 0).toArray 32)).alloc (.cells (pN 0 0).toArray 32)) (w.heap.size + 1) 32 (pN 0 0) := by
    have := Box.new (w.alloc (.cells (pN 0 0).toArray 32)) 32 (pN 0 0)
    rwa [World.size_alloc] at this
  have hx0 : Ext w ((w.alloc (.cells (pN 0 0).toArray 32)).alloc (.cells (pN 0 0).toArray 32)) := Ext.alloc_ (Ext.alloc_ (Ext.refl w) _) _
  have HST : Hid (NRel w ((w.alloc (.cells (pN 0 0).toArray 32)).alloc (.cells (pN 0 0).toArray 32)) s.size 0 st0) := Lib.hid ⟨hb2, hb5, hx0, Nat.zero_le _, Nat.le_refl _, Nat.le_refl _, Nat.le_refl _, Nat.le_refl _, Nat.le_refl _, Nat.le_refl _, Nat.le_refl _⟩
  clear hb2 hb5 hx0
  go_enter Tryz.func184, Tryz.ntmps184
  go_wp2
  change Code.wp _ _ _ _ ((w.alloc (.cells (pN 0 0).toArray 32)).alloc (.cells (pN 0 0).toArray 32))
  generalize (w.alloc (.cells (pN 0 0).toArray 32)).alloc (.cells (pN 0 0).toArray 32) = w1 at *
  go_loopw [6, 7, 8, 9, 10, 11, 12, 13] (fun pt sn gp cm wh zr i _ wr => ∃ (k : Nat) (st : NSt), i = .int .i64 k ∧ pt = .bool st.point ∧ sn = .int .i64 st.since ∧ gp = .int .i64 st.group ∧ cm = .int .i64 st.commas ∧ wh = .int .i64 st.whole ∧ zr = .int .i64 st.zeros ∧ NRel w wr s.size k st ∧ Hid (runN st (s.data.toList.drop k) = some t)) (fun _ _ _ _ _ _ i _ _ => s.size - (intOf i).toNat)
  case atStart => exact ⟨0, st0, rfl, rfl, rfl, rfl, rfl, rfl, rfl, HST.out, HRUN⟩
  case round =>
    obtain ⟨k, ⟨pt, sn, gp, cm, wh, zr, mi, mx⟩, rfl, rfl, rfl, rfl, rfl, rfl, rfl, hR, HK⟩ := hrel
    obtain ⟨hb2, hb5, hx, hkn, h1, h2, h3, h4, h5, h6, h7⟩ := hR
    dsimp only at hb5 h1 h2 h3 h4 h5 h6 h7
    by_cases hlt : k < s.size
    · have hlt2 : k < s.data.toList.length := by omega
      have hsk : s.data.toList[k] = s[k] := by simp; rfl
      have hK := HK.out
      rw [List.drop_eq_getElem_cons hlt2, hsk, runN] at hK
      have k7 := hb5.cell (j := 7) (v := .int .i64 mi) rfl
      have k8 := hb5.cell (j := 8) (v := .int .i64 mx) rfl
      have f8 := hb5.frozen 8
      have hb6 := hb5.setCell 8 (.int .i64 ((mx : Int) + 1))
      have l7 := hb6.cell (j := 7) (v := .int .i64 mi) rfl
      have g7 := hb6.frozen 7
      by_cases c46 : s[k]'hlt = 46
      · have e46 : (((s[k]'hlt).toNat : Int) == 46) = true := u8_eq 46 (by omega) c46
        unfold stepN at hK
        rw [if_pos c46] at hK
        split at hK
        case h_2 => cases hK
        rename_i st' hst
        split at hst
        · cases hst
        · rename_i hno
          injection hst with hst
          dsimp only at hno hst
          have hpt : pt = false := by cases pt <;> simp_all
          have hwh : ¬ wh = 0 := fun e => hno (.inr (.inl e))
          have hcs : ¬ (0 < cm ∧ sn = 0) := fun e => hno (.inr (.inr e))
          subst hpt
          have g1 : ((wh : Int) == 0) = false := by simpa using hwh
          have HNK := Lib.hid hK
          clear hK hno
          subst hst
          by_cases hcm : 0 < cm
          · have g2 : (cm : Int) > 0 := by omega
            have g3 : ((sn : Int) == 0) = false := by simp; omega
            go_wp2
            refine ⟨?_, by simp [intOf] <;> omega⟩
            exact ⟨k + 1, _, by go_num, rfl, rfl, rfl, rfl, rfl, rfl, ⟨hb2, hb5, hx, by omega, by dsimp only; omega, by dsimp only; omega, by dsimp only; omega, by dsimp only; omega, by dsimp only; omega, by dsimp only; omega, by dsimp only; omega⟩, HNK⟩
          · have g2 : ¬ ((cm : Int) > 0) := by omega
            go_wp2
            refine ⟨?_, by simp [intOf] <;> omega⟩
            exact ⟨k + 1, _, by go_num, rfl, rfl, rfl, rfl, rfl, rfl, ⟨hb2, hb5, hx, by omega, by dsimp only; omega, by dsimp only; omega, by dsimp only; omega, by dsimp only; omega, by dsimp only; omega, by dsimp only; omega, by dsimp only; omega⟩, HNK⟩
      · have e46 : (((s[k]'hlt).toNat : Int) == 46) = false := u8_ne 46 c46
        unfold stepN at hK
        rw [if_neg c46] at hK
        cases pt
        · rw [if_neg (by simp)] at hK
          by_cases c44 : s[k]'hlt = 44
          · have e44 : (((s[k]'hlt).toNat : Int) == 44) = true := u8_eq 44 (by omega) c44
            rw [if_pos c44] at hK
            by_cases hsn : sn = 0
            · rw [if_pos hsn] at hK; cases hK
            rw [if_neg hsn] at hK
            have g3 : ((sn : Int) == 0) = false := by simp; omega
            have HNK := Lib.hid hK
            clear hK
            go_wp2
            refine ⟨?_, by simp [intOf] <;> omega⟩
            exact ⟨k + 1, _, by go_num, rfl, rfl, rfl, rfl, rfl, rfl, ⟨hb2, hb5, hx, by omega, by dsimp only; omega, by dsimp only; omega, by dsimp only; omega, by dsimp only; omega, by dsimp only; omega, by dsimp only; omega, by dsimp only; omega⟩, HNK⟩
          · have e44 : (((s[k]'hlt).toNat : Int) == 44) = false := u8_ne 44 c44
            rw [if_neg c44] at hK
            by_cases c35 : s[k]'hlt = 35
            · have e35 : (((s[k]'hlt).toNat : Int) == 35) = true := u8_eq 35 (by omega) c35
              have c48 : ¬ (s[k]'hlt = 48) := by rw [c35]; decide
              have e48 : (((s[k]'hlt).toNat : Int) == 48) = false := u8_ne 48 c48
              by_cases hz : 0 < zr
              · rw [if_pos ⟨c35, hz⟩] at hK; cases hK
              rw [if_neg (fun e => hz e.2), if_neg c48] at hK
              have g4 : ¬ ((zr : Int) > 0) := by omega
              have HNK := Lib.hid hK
              clear hK
              go_wp2
              refine ⟨?_, by simp [intOf] <;> omega⟩
              exact ⟨k + 1, _, by go_num, rfl, rfl, rfl, rfl, rfl, rfl, ⟨hb2, hb5, hx, by omega, by dsimp only; omega, by dsimp only; omega, by dsimp only; omega, by dsimp only; omega, by dsimp only; omega, by dsimp only; omega, by dsimp only; omega⟩, HNK⟩
            · have e35 : (((s[k]'hlt).toNat : Int) == 35) = false := u8_ne 35 c35
              rw [if_neg (fun e => c35 e.1)] at hK
              by_cases c48 : s[k]'hlt = 48
              · have e48 : (((s[k]'hlt).toNat : Int) == 48) = true := u8_eq 48 (by omega) c48
                rw [if_pos c48] at hK
                have HNK := Lib.hid hK
                clear hK
                go_wp2
                refine ⟨?_, by simp [intOf] <;> omega⟩
                exact ⟨k + 1, _, by go_num, rfl, rfl, rfl, rfl, rfl, rfl, ⟨hb2, hb5, hx, by omega, by dsimp only; omega, by dsimp only; omega, by dsimp only; omega, by dsimp only; omega, by dsimp only; omega, by dsimp only; omega, by dsimp only; omega⟩, HNK⟩
              · have e48 : (((s[k]'hlt).toNat : Int) == 48) = false := u8_ne 48 c48
                rw [if_neg c48] at hK
                have HNK := Lib.hid hK
                clear hK
                go_wp2
                refine ⟨?_, by simp [intOf] <;> omega⟩
                exact ⟨k + 1, _, by go_num, rfl, rfl, rfl, rfl, rfl, rfl, ⟨hb2, hb5, hx, by omega, by dsimp only; omega, by dsimp only; omega, by dsimp only; omega, by dsimp only; omega, by dsimp only; omega, by dsimp only; omega, by dsimp only; omega⟩, HNK⟩
        · rw [if_pos rfl] at hK
          by_cases c44 : s[k]'hlt = 44
          · rw [if_pos (.inl c44)] at hK; cases hK
          have e44 : (((s[k]'hlt).toNat : Int) == 44) = false := u8_ne 44 c44
          by_cases c48 : s[k]'hlt = 48
          · have e48 : (((s[k]'hlt).toNat : Int) == 48) = true := u8_eq 48 (by omega) c48
            by_cases hmm : mi < mx
            · rw [if_pos (.inr ⟨c48, hmm⟩)] at hK; cases hK
            rw [if_neg (fun e => e.elim c44 (fun f => hmm f.2)), if_pos c48] at hK
            have g5 : ¬ ((mx : Int) > (mi : Int)) := by omega
            have HNK := Lib.hid hK
            clear hK
            go_wp2
            refine ⟨?_, by simp [intOf] <;> omega⟩
            exact ⟨k + 1, ⟨true, sn, gp, cm, wh, zr, mi + 1, mx + 1⟩, by go_num, rfl, rfl, rfl, rfl, rfl, rfl, ⟨(hb2.setCell1 (w.heap.size + 1) _ (by omega) 8).setCell1 (w.heap.size + 1) _ (by omega) 7, hb6.setCell 7 (.int .i64 ((mi : Int) + 1)), Ext.setCell_ (Ext.setCell_ hx (by omega) _ _) (by omega) _ _, by omega, by dsimp only; omega, by dsimp only; omega, by dsimp only; omega, by dsimp only; omega, by dsimp only; omega, by dsimp only; omega, by dsimp only; omega⟩, HNK⟩
          · have e48 : (((s[k]'hlt).toNat : Int) == 48) = false := u8_ne 48 c48
            rw [if_neg (fun e => e.elim c44 (fun f => c48 f.1)), if_neg c48] at hK
            have HNK := Lib.hid hK
            clear hK
            go_wp2
            refine ⟨?_, by simp [intOf] <;> omega⟩
            exact ⟨k + 1, ⟨true, sn, gp, cm, wh, zr, mi, mx + 1⟩, by go_num, rfl, rfl, rfl, rfl, rfl, rfl, ⟨hb2.setCell1 (w.heap.size + 1) _ (by omega) 8, hb6, Ext.setCell_ hx (by omega) _ _, by omega, by dsimp only; omega, by dsimp only; omega, by dsimp only; omega, by dsimp only; omega, by dsimp only; omega, by dsimp only; omega, by dsimp only; omega⟩, HNK⟩
    · have e : k = s.size := by omega
      subst e
      have hK := HK.out
      rw [List.drop_of_length_le (by omega), runN] at hK
      injection hK with hK
      subst hK
      have he := HEND.out
      unfold endN at he
      rw [Bool.and_eq_true, Bool.and_eq_true, decide_eq_true_eq, decide_eq_true_eq] at he
      obtain ⟨⟨hw0, hs0⟩, hp0⟩ := he
      dsimp only at hw0 hs0 hp0
      have g1 : ((wh : Int) == 0) = false := by simpa using hw0
      have g2 : ((sn : Int) == 0) = false := by simpa using hs0
      have HNU : Hid (numsN ⟨pt, sn, gp, cm, wh, zr, mi, mx⟩ = ⟨if 0 < cm then sn else 0, if 1 < cm then gp else if 0 < cm then sn else 0, zr, mi, mx⟩) := Lib.hid rfl
      have hlo := HLONG.out
      unfold longN at hlo
      rw [Bool.or_eq_false_iff, decide_eq_false_iff_not, decide_eq_false_iff_not] at hlo
      obtain ⟨hl1, hl2⟩ := hlo
      dsimp only at hl1 hl2
      have gl1 : ¬ ((wh : Int) > 64) := by omega
      have gl2 : ¬ ((mx : Int) > 64) := by omega
      have k8 := hb5.cell (j := 8) (v := .int .i64 mx) rfl
      have k6 := hb5.cell (j := 6) (v := .int .i64 0) rfl
      have f6 := hb5.frozen 6
      have hb6 := hb5.setCell 6 (.int .i64 zr)
      have hx6 : Ext w (wr.setCell ⟨w.heap.size + 1, 6, none⟩ (.int .i64 zr)) := Ext.setCell_ hx (by omega) _ _
      have hc6 := hb2.setCell1 (w.heap.size + 1) (.int .i64 zr) (by omega) 6
      have gp0 : pt = false ∨ (pt = true ∧ ((mx : Int) == 0) = false) := by
        cases pt
        · exact .inl rfl
        · exact .inr ⟨rfl, by simpa using hp0⟩
      rcases gp0 with rfl | ⟨rfl, gmx⟩
      · by_cases hcm : 0 < cm
        · have gcm : (cm : Int) > 0 := by omega
          have k4 := hb6.cell (j := 4) (v := .int .i64 0) rfl
          have f4 := hb6.frozen 4
          have hb7 := hb6.setCell 4 (.int .i64 sn)
          have hc7 := hc6.setCell1 (w.heap.size + 1) (.int .i64 sn) (by omega) 4
          have k5 := hb7.cell (j := 5) (v := .int .i64 0) rfl
          have f5 := hb7.frozen 5
          have hb8 := hb7.setCell 5 (.int .i64 sn)
          have hc8 := hc7.setCell1 (w.heap.size + 1) (.int .i64 sn) (by omega) 5
          by_cases hcm1 : 1 < cm
          · have gcm1 : (cm : Int) > 1 := by omega
            have k55 := hb8.cell (j := 5) (v := .int .i64 sn) rfl
            have f55 := hb8.frozen 5
            have hb9 := hb8.setCell 5 (.int .i64 gp)
            have hc9 := hc8.setCell1 (w.heap.size + 1) (.int .i64 gp) (by omega) 5
            have hbF : Box ((((wr.setCell ⟨w.heap.size + 1, 6, none⟩ (.int .i64 zr)).setCell ⟨w.heap.size + 1, 4, none⟩ (.int .i64 sn)).setCell ⟨w.heap.size + 1, 5, none⟩ (.int .i64 sn)).setCell ⟨w.heap.size + 1, 5, none⟩ (.int .i64 gp)) (w.heap.size + 1) 32 [nilS, nilS, nilS, nilS, .int .i64 sn, .int .i64 gp, .int .i64 zr, .int .i64 mi, .int .i64 mx] := hb9
            have hcF : Box ((((wr.setCell ⟨w.heap.size + 1, 6, none⟩ (.int .i64 zr)).setCell ⟨w.heap.size + 1, 4, none⟩ (.int .i64 sn)).setCell ⟨w.heap.size + 1, 5, none⟩ (.int .i64 sn)).setCell ⟨w.heap.size + 1, 5, none⟩ (.int .i64 gp)) w.heap.size 32 [nilS, nilS, nilS, nilS, .int .i64 0, .int .i64 0, .int .i64 0, .int .i64 0, .int .i64 0] := hc9
            have HN : Hid (numsN ⟨false, sn, gp, cm, wh, zr, mi, mx⟩ = ⟨sn, gp, zr, mi, mx⟩) := Lib.hid (by
              have e0 : numsN ⟨false, sn, gp, cm, wh, zr, mi, mx⟩ = ⟨if 0 < cm then sn else 0, if 1 < cm then gp else if 0 < cm then sn else 0, zr, mi, mx⟩ := rfl
              rw [e0, if_pos hcm, if_pos hcm1])
            have m0 := hbF.cell (j := 0) (v := nilS) rfl
            have m1 := hbF.cell (j := 1) (v := nilS) rfl
            have m2 := hbF.cell (j := 2) (v := nilS) rfl
            have m3 := hbF.cell (j := 3) (v := nilS) rfl
            have m4 := hbF.cell (j := 4) (v := .int .i64 sn) rfl
            have m5 := hbF.cell (j := 5) (v := .int .i64 gp) rfl
            have m6 := hbF.cell (j := 6) (v := .int .i64 zr) rfl
            have m7 := hbF.cell (j := 7) (v := .int .i64 mi) rfl
            have m8 := hbF.cell (j := 8) (v := .int .i64 mx) rfl
            have hxF : Ext w ((((wr.setCell ⟨w.heap.size + 1, 6, none⟩ (.int .i64 zr)).setCell ⟨w.heap.size + 1, 4, none⟩ (.int .i64 sn)).setCell ⟨w.heap.size + 1, 5, none⟩ (.int .i64 sn)).setCell ⟨w.heap.size + 1, 5, none⟩ (.int .i64 gp)) := Ext.setCell_ (Ext.setCell_ (Ext.setCell_ hx6 (by omega) _ _) (by omega) _ _) (by omega) _ _
            go_upto_region 42 with fail
            generalize (((wr.setCell ⟨w.heap.size + 1, 6, none⟩ (.int .i64 zr)).setCell ⟨w.heap.size + 1, 4, none⟩ (.int .i64 sn)).setCell ⟨w.heap.size + 1, 5, none⟩ (.int .i64 sn)).setCell ⟨w.heap.size + 1, 5, none⟩ (.int .i64 gp) = wf at *
            have HXF := Lib.hid hxF
            have HCF := Lib.hid hcF
            obtain ⟨q0, q1, q2, q3, q4, q5, q6, q7, q8, r0, r1, r2, r3, r4, r5, r6, r7, r8⟩ := box9 hcF
            clear hxF
            unfold nilS at m0 m1 m2 m3 q0 q1 q2 q3
            go_region
            all_goals go_wp2
            all_goals have hbz := (((((((((HCF.out.setCell 0 (.slice none 0 0)).setCell 1 (.slice none 0 0)).setCell 2 (.slice none 0 0)).setCell 3 (.slice none 0 0)).setCell 4 (.int .i64 sn)).setCell 5 (.int .i64 gp)).setCell 6 (.int .i64 zr)).setCell 7 (.int .i64 mi)).setCell 8 (.int .i64 mx)).drew
            all_goals refine bodyPost_ret (results_num rfl _ _ w.heap.size _ rfl hbz rfl) rfl ?_
            all_goals exact ⟨by rw [HN.out]; rfl, Ext.drew_ (Ext.setCell_ (Ext.setCell_ (Ext.setCell_ (Ext.setCell_ (Ext.setCell_ (Ext.setCell_ (Ext.setCell_ (Ext.setCell_ (Ext.setCell_ HXF.out (Nat.le_refl _) _ _) (Nat.le_refl _) _ _) (Nat.le_refl _) _ _) (Nat.le_refl _) _ _) (Nat.le_refl _) _ _) (Nat.le_refl _) _ _) (Nat.le_refl _) _ _) (Nat.le_refl _) _ _) (Nat.le_refl _) _ _)⟩
          · have gcm1 : ¬ ((cm : Int) > 1) := by omega
            have hbF : Box (((wr.setCell ⟨w.heap.size + 1, 6, none⟩ (.int .i64 zr)).setCell ⟨w.heap.size + 1, 4, none⟩ (.int .i64 sn)).setCell ⟨w.heap.size + 1, 5, none⟩ (.int .i64 sn)) (w.heap.size + 1) 32 [nilS, nilS, nilS, nilS, .int .i64 sn, .int .i64 sn, .int .i64 zr, .int .i64 mi, .int .i64 mx] := hb8
            have hcF : Box (((wr.setCell ⟨w.heap.size + 1, 6, none⟩ (.int .i64 zr)).setCell ⟨w.heap.size + 1, 4, none⟩ (.int .i64 sn)).setCell ⟨w.heap.size + 1, 5, none⟩ (.int .i64 sn)) w.heap.size 32 [nilS, nilS, nilS, nilS, .int .i64 0, .int .i64 0, .int .i64 0, .int .i64 0, .int .i64 0] := hc8
            have HN : Hid (numsN ⟨false, sn, gp, cm, wh, zr, mi, mx⟩ = ⟨sn, sn, zr, mi, mx⟩) := Lib.hid (by
              have e0 : numsN ⟨false, sn, gp, cm, wh, zr, mi, mx⟩ = ⟨if 0 < cm then sn else 0, if 1 < cm then gp else if 0 < cm then sn else 0, zr, mi, mx⟩ := rfl
              rw [e0, if_pos hcm, if_neg hcm1])
            have m0 := hbF.cell (j := 0) (v := nilS) rfl
            have m1 := hbF.cell (j := 1) (v := nilS) rfl
            have m2 := hbF.cell (j := 2) (v := nilS) rfl
            have m3 := hbF.cell (j := 3) (v := nilS) rfl
            have m4 := hbF.cell (j := 4) (v := .int .i64 sn) rfl
            have m5 := hbF.cell (j := 5) (v := .int .i64 sn) rfl
            have m6 := hbF.cell (j := 6) (v := .int .i64 zr) rfl
            have m7 := hbF.cell (j := 7) (v := .int .i64 mi) rfl
            have m8 := hbF.cell (j := 8) (v := .int .i64 mx) rfl
            have hxF : Ext w (((wr.setCell ⟨w.heap.size + 1, 6, none⟩ (.int .i64 zr)).setCell ⟨w.heap.size + 1, 4, none⟩ (.int .i64 sn)).setCell ⟨w.heap.size + 1, 5, none⟩ (.int .i64 sn)) := Ext.setCell_ (Ext.setCell_ hx6 (by omega) _ _) (by omega) _ _
            go_upto_region 42 with fail
            generalize ((wr.setCell ⟨w.heap.size + 1, 6, none⟩ (.int .i64 zr)).setCell ⟨w.heap.size + 1, 4, none⟩ (.int .i64 sn)).setCell ⟨w.heap.size + 1, 5, none⟩ (.int .i64 sn) = wf at *
            have HXF := Lib.hid hxF
            have HCF := Lib.hid hcF
            obtain ⟨q0, q1, q2, q3, q4, q5, q6, q7, q8, r0, r1, r2, r3, r4, r5, r6, r7, r8⟩ := box9 hcF
            clear hxF
            unfold nilS at m0 m1 m2 m3 q0 q1 q2 q3
            go_region
            all_goals go_wp2
            all_goals have hbz := (((((((((HCF.out.setCell 0 (.slice none 0 0)).setCell 1 (.slice none 0 0)).setCell 2 (.slice none 0 0)).setCell 3 (.slice none 0 0)).setCell 4 (.int .i64 sn)).setCell 5 (.int .i64 sn)).setCell 6 (.int .i64 zr)).setCell 7 (.int .i64 mi)).setCell 8 (.int .i64 mx)).drew
            all_goals refine bodyPost_ret (results_num rfl _ _ w.heap.size _ rfl hbz rfl) rfl ?_
            all_goals exact ⟨by rw [HN.out]; rfl, Ext.drew_ (Ext.setCell_ (Ext.setCell_ (Ext.setCell_ (Ext.setCell_ (Ext.setCell_ (Ext.setCell_ (Ext.setCell_ (Ext.setCell_ (Ext.setCell_ HXF.out (Nat.le_refl _) _ _) (Nat.le_refl _) _ _) (Nat.le_refl _) _ _) (Nat.le_refl _) _ _) (Nat.le_refl _) _ _) (Nat.le_refl _) _ _) (Nat.le_refl _) _ _) (Nat.le_refl _) _ _) (Nat.le_refl _) _ _)⟩
        · have gcm : ¬ ((cm : Int) > 0) := by omega
          have gcm1 : ¬ ((cm : Int) > 1) := by omega
          have hbF : Box (wr.setCell ⟨w.heap.size + 1, 6, none⟩ (.int .i64 zr)) (w.heap.size + 1) 32 [nilS, nilS, nilS, nilS, .int .i64 0, .int .i64 0, .int .i64 zr, .int .i64 mi, .int .i64 mx] := hb6
          have hcF : Box (wr.setCell ⟨w.heap.size + 1, 6, none⟩ (.int .i64 zr)) w.heap.size 32 [nilS, nilS, nilS, nilS, .int .i64 0, .int .i64 0, .int .i64 0, .int .i64 0, .int .i64 0] := hc6
          have HN : Hid (numsN ⟨false, sn, gp, cm, wh, zr, mi, mx⟩ = ⟨0, 0, zr, mi, mx⟩) := Lib.hid (by
            have e0 : numsN ⟨false, sn, gp, cm, wh, zr, mi, mx⟩ = ⟨if 0 < cm then sn else 0, if 1 < cm then gp else if 0 < cm then sn else 0, zr, mi, mx⟩ := rfl
            rw [e0, if_neg hcm, if_neg (show ¬ 1 < cm by omega)])
          have m0 := hbF.cell (j := 0) (v := nilS) rfl
          have m1 := hbF.cell (j := 1) (v := nilS) rfl
          have m2 := hbF.cell (j := 2) (v := nilS) rfl
          have m3 := hbF.cell (j := 3) (v := nilS) rfl
          have m4 := hbF.cell (j := 4) (v := .int .i64 0) rfl
          have m5 := hbF.cell (j := 5) (v := .int .i64 0) rfl
          have m6 := hbF.cell (j := 6) (v := .int .i64 zr) rfl
          have m7 := hbF.cell (j := 7) (v := .int .i64 mi) rfl
          have m8 := hbF.cell (j := 8) (v := .int .i64 mx) rfl
          have hxF : Ext w (wr.setCell ⟨w.heap.size + 1, 6, none⟩ (.int .i64 zr)) := hx6
          go_upto_region 42 with fail
          generalize wr.setCell ⟨w.heap.size + 1, 6, none⟩ (.int .i64 zr) = wf at *
          have HXF := Lib.hid hxF
          have HCF := Lib.hid hcF
          obtain ⟨q0, q1, q2, q3, q4, q5, q6, q7, q8, r0, r1, r2, r3, r4, r5, r6, r7, r8⟩ := box9 hcF
          clear hxF
          unfold nilS at m0 m1 m2 m3 q0 q1 q2 q3
          go_region
          all_goals go_wp2
          all_goals have hbz := (((((((((HCF.out.setCell 0 (.slice none 0 0)).setCell 1 (.slice none 0 0)).setCell 2 (.slice none 0 0)).setCell 3 (.slice none 0 0)).setCell 4 (.int .i64 0)).setCell 5 (.int .i64 0)).setCell 6 (.int .i64 zr)).setCell 7 (.int .i64 mi)).setCell 8 (.int .i64 mx)).drew
          all_goals refine bodyPost_ret (results_num rfl _ _ w.heap.size _ rfl hbz rfl) rfl ?_
          all_goals exact ⟨by rw [HN.out]; rfl, Ext.drew_ (Ext.setCell_ (Ext.setCell_ (Ext.setCell_ (Ext.setCell_ (Ext.setCell_ (Ext.setCell_ (Ext.setCell_ (Ext.setCell_ (Ext.setCell_ HXF.out (Nat.le_refl _) _ _) (Nat.le_refl _) _ _) (Nat.le_refl _) _ _) (Nat.le_refl _) _ _) (Nat.le_refl _) _ _) (Nat.le_refl _) _ _) (Nat.le_refl _) _ _) (Nat.le_refl _) _ _) (Nat.le_refl _) _ _)⟩
      · by_cases hcm : 0 < cm
        · have gcm : (cm : Int) > 0 := by omega
          have k4 := hb6.cell (j := 4) (v := .int .i64 0) rfl
          have f4 := hb6.frozen 4
          have hb7 := hb6.setCell 4 (.int .i64 sn)
          have hc7 := hc6.setCell1 (w.heap.size + 1) (.int .i64 sn) (by omega) 4
          have k5 := hb7.cell (j := 5) (v := .int .i64 0) rfl
          have f5 := hb7.frozen 5
          have hb8 := hb7.setCell 5 (.int .i64 sn)
          have hc8 := hc7.setCell1 (w.heap.size + 1) (.int .i64 sn) (by omega) 5
          by_cases hcm1 : 1 < cm
          · have gcm1 : (cm : Int) > 1 := by omega
            have k55 := hb8.cell (j := 5) (v := .int .i64 sn) rfl
            have f55 := hb8.frozen 5
            have hb9 := hb8.setCell 5 (.int .i64 gp)
            have hc9 := hc8.setCell1 (w.heap.size + 1) (.int .i64 gp) (by omega) 5
            have hbF : Box ((((wr.setCell ⟨w.heap.size + 1, 6, none⟩ (.int .i64 zr)).setCell ⟨w.heap.size + 1, 4, none⟩ (.int .i64 sn)).setCell ⟨w.heap.size + 1, 5, none⟩ (.int .i64 sn)).setCell ⟨w.heap.size + 1, 5, none⟩ (.int .i64 gp)) (w.heap.size + 1) 32 [nilS, nilS, nilS, nilS, .int .i64 sn, .int .i64 gp, .int .i64 zr, .int .i64 mi, .int .i64 mx] := hb9
            have hcF : Box ((((wr.setCell ⟨w.heap.size + 1, 6, none⟩ (.int .i64 zr)).setCell ⟨w.heap.size + 1, 4, none⟩ (.int .i64 sn)).setCell ⟨w.heap.size + 1, 5, none⟩ (.int .i64 sn)).setCell ⟨w.heap.size + 1, 5, none⟩ (.int .i64 gp)) w.heap.size 32 [nilS, nilS, nilS, nilS, .int .i64 0, .int .i64 0, .int .i64 0, .int .i64 0, .int .i64 0] := hc9
            have HN : Hid (numsN ⟨true, sn, gp, cm, wh, zr, mi, mx⟩ = ⟨sn, gp, zr, mi, mx⟩) := Lib.hid (by
              have e0 : numsN ⟨true, sn, gp, cm, wh, zr, mi, mx⟩ = ⟨if 0 < cm then sn else 0, if 1 < cm then gp else if 0 < cm then sn else 0, zr, mi, mx⟩ := rfl
              rw [e0, if_pos hcm, if_pos hcm1])
            have m0 := hbF.cell (j := 0) (v := nilS) rfl
            have m1 := hbF.cell (j := 1) (v := nilS) rfl
            have m2 := hbF.cell (j := 2) (v := nilS) rfl
            have m3 := hbF.cell (j := 3) (v := nilS) rfl
            have m4 := hbF.cell (j := 4) (v := .int .i64 sn) rfl
            have m5 := hbF.cell (j := 5) (v := .int .i64 gp) rfl
            have m6 := hbF.cell (j := 6) (v := .int .i64 zr) rfl
            have m7 := hbF.cell (j := 7) (v := .int .i64 mi) rfl
            have m8 := hbF.cell (j := 8) (v := .int .i64 mx) rfl
            have hxF : Ext w ((((wr.setCell ⟨w.heap.size + 1, 6, none⟩ (.int .i64 zr)).setCell ⟨w.heap.size + 1, 4, none⟩ (.int .i64 sn)).setCell ⟨w.heap.size + 1, 5, none⟩ (.int .i64 sn)).setCell ⟨w.heap.size + 1, 5, none⟩ (.int .i64 gp)) := Ext.setCell_ (Ext.setCell_ (Ext.setCell_ hx6 (by omega) _ _) (by omega) _ _) (by omega) _ _
            go_upto_region 42 with fail
            generalize (((wr.setCell ⟨w.heap.size + 1, 6, none⟩ (.int .i64 zr)).setCell ⟨w.heap.size + 1, 4, none⟩ (.int .i64 sn)).setCell ⟨w.heap.size + 1, 5, none⟩ (.int .i64 sn)).setCell ⟨w.heap.size + 1, 5, none⟩ (.int .i64 gp) = wf at *
            have HXF := Lib.hid hxF
            have HCF := Lib.hid hcF
            obtain ⟨q0, q1, q2, q3, q4, q5, q6, q7, q8, r0, r1, r2, r3, r4, r5, r6, r7, r8⟩ := box9 hcF
            clear hxF
            unfold nilS at m0 m1 m2 m3 q0 q1 q2 q3
            go_region
            all_goals go_wp2
            all_goals have hbz := (((((((((HCF.out.setCell 0 (.slice none 0 0)).setCell 1 (.slice none 0 0)).setCell 2 (.slice none 0 0)).setCell 3 (.slice none 0 0)).setCell 4 (.int .i64 sn)).setCell 5 (.int .i64 gp)).setCell 6 (.int .i64 zr)).setCell 7 (.int .i64 mi)).setCell 8 (.int .i64 mx)).drew
            all_goals refine bodyPost_ret (results_num rfl _ _ w.heap.size _ rfl hbz rfl) rfl ?_
            all_goals exact ⟨by rw [HN.out]; rfl, Ext.drew_ (Ext.setCell_ (Ext.setCell_ (Ext.setCell_ (Ext.setCell_ (Ext.setCell_ (Ext.setCell_ (Ext.setCell_ (Ext.setCell_ (Ext.setCell_ HXF.out (Nat.le_refl _) _ _) (Nat.le_refl _) _ _) (Nat.le_refl _) _ _) (Nat.le_refl _) _ _) (Nat.le_refl _) _ _) (Nat.le_refl _) _ _) (Nat.le_refl _) _ _) (Nat.le_refl _) _ _) (Nat.le_refl _) _ _)⟩
          · have gcm1 : ¬ ((cm : Int) > 1) := by omega
            have hbF : Box (((wr.setCell ⟨w.heap.size + 1, 6, none⟩ (.int .i64 zr)).setCell ⟨w.heap.size + 1, 4, none⟩ (.int .i64 sn)).setCell ⟨w.heap.size + 1, 5, none⟩ (.int .i64 sn)) (w.heap.size + 1) 32 [nilS, nilS, nilS, nilS, .int .i64 sn, .int .i64 sn, .int .i64 zr, .int .i64 mi, .int .i64 mx] := hb8
            have hcF : Box (((wr.setCell ⟨w.heap.size + 1, 6, none⟩ (.int .i64 zr)).setCell ⟨w.heap.size + 1, 4, none⟩ (.int .i64 sn)).setCell ⟨w.heap.size + 1, 5, none⟩ (.int .i64 sn)) w.heap.size 32 [nilS, nilS, nilS, nilS, .int .i64 0, .int .i64 0, .int .i64 0, .int .i64 0, .int .i64 0] := hc8
            have HN : Hid (numsN ⟨true, sn, gp, cm, wh, zr, mi, mx⟩ = ⟨sn, sn, zr, mi, mx⟩) := Lib.hid (by
              have e0 : numsN ⟨true, sn, gp, cm, wh, zr, mi, mx⟩ = ⟨if 0 < cm then sn else 0, if 1 < cm then gp else if 0 < cm then sn else 0, zr, mi, mx⟩ := rfl
              rw [e0, if_pos hcm, if_neg hcm1])
            have m0 := hbF.cell (j := 0) (v := nilS) rfl
            have m1 := hbF.cell (j := 1) (v := nilS) rfl
            have m2 := hbF.cell (j := 2) (v := nilS) rfl
            have m3 := hbF.cell (j := 3) (v := nilS) rfl
            have m4 := hbF.cell (j := 4) (v := .int .i64 sn) rfl
            have m5 := hbF.cell (j := 5) (v := .int .i64 sn) rfl
            have m6 := hbF.cell (j := 6) (v := .int .i64 zr) rfl
            have m7 := hbF.cell (j := 7) (v := .int .i64 mi) rfl
            have m8 := hbF.cell (j := 8) (v := .int .i64 mx) rfl
            have hxF : Ext w (((wr.setCell ⟨w.heap.size + 1, 6, none⟩ (.int .i64 zr)).setCell ⟨w.heap.size + 1, 4, none⟩ (.int .i64 sn)).setCell ⟨w.heap.size + 1, 5, none⟩ (.int .i64 sn)) := Ext.setCell_ (Ext.setCell_ hx6 (by omega) _ _) (by omega) _ _
            go_upto_region 42 with fail
            generalize ((wr.setCell ⟨w.heap.size + 1, 6, none⟩ (.int .i64 zr)).setCell ⟨w.heap.size + 1, 4, none⟩ (.int .i64 sn)).setCell ⟨w.heap.size + 1, 5, none⟩ (.int .i64 sn) = wf at *
            have HXF := Lib.hid hxF
            have HCF := Lib.hid hcF
            obtain ⟨q0, q1, q2, q3, q4, q5, q6, q7, q8, r0, r1, r2, r3, r4, r5, r6, r7, r8⟩ := box9 hcF
            clear hxF
            unfold nilS at m0 m1 m2 m3 q0 q1 q2 q3
            go_region
            all_goals go_wp2
            all_goals have hbz := (((((((((HCF.out.setCell 0 (.slice none 0 0)).setCell 1 (.slice none 0 0)).setCell 2 (.slice none 0 0)).setCell 3 (.slice none 0 0)).setCell 4 (.int .i64 sn)).setCell 5 (.int .i64 sn)).setCell 6 (.int .i64 zr)).setCell 7 (.int .i64 mi)).setCell 8 (.int .i64 mx)).drew
            all_goals refine bodyPost_ret (results_num rfl _ _ w.heap.size _ rfl hbz rfl) rfl ?_
            all_goals exact ⟨by rw [HN.out]; rfl, Ext.drew_ (Ext.setCell_ (Ext.setCell_ (Ext.setCell_ (Ext.setCell_ (Ext.setCell_ (Ext.setCell_ (Ext.setCell_ (Ext.setCell_ (Ext.setCell_ HXF.out (Nat.le_refl _) _ _) (Nat.le_refl _) _ _) (Nat.le_refl _) _ _) (Nat.le_refl _) _ _) (Nat.le_refl _) _ _) (Nat.le_refl _) _ _) (Nat.le_refl _) _ _) (Nat.le_refl _) _ _) (Nat.le_refl _) _ _)⟩
        · have gcm : ¬ ((cm : Int) > 0) := by omega
          have gcm1 : ¬ ((cm : Int) > 1) := by omega
          have hbF : Box (wr.setCell ⟨w.heap.size + 1, 6, none⟩ (.int .i64 zr)) (w.heap.size + 1) 32 [nilS, nilS, nilS, nilS, .int .i64 0, .int .i64 0, .int .i64 zr, .int .i64 mi, .int .i64 mx] := hb6
          have hcF : Box (wr.setCell ⟨w.heap.size + 1, 6, none⟩ (.int .i64 zr)) w.heap.size 32 [nilS, nilS, nilS, nilS, .int .i64 0, .int .i64 0, .int .i64 0, .int .i64 0, .int .i64 0] := hc6
          have HN : Hid (numsN ⟨true, sn, gp, cm, wh, zr, mi, mx⟩ = ⟨0, 0, zr, mi, mx⟩) := Lib.hid (by
            have e0 : numsN ⟨true, sn, gp, cm, wh, zr, mi, mx⟩ = ⟨if 0 < cm then sn else 0, if 1 < cm then gp else if 0 < cm then sn else 0, zr, mi, mx⟩ := rfl
            rw [e0, if_neg hcm, if_neg (show ¬ 1 < cm by omega)])
          have m0 := hbF.cell (j := 0) (v := nilS) rfl
          have m1 := hbF.cell (j := 1) (v := nilS) rfl
          have m2 := hbF.cell (j := 2) (v := nilS) rfl
          have m3 := hbF.cell (j := 3) (v := nilS) rfl
          have m4 := hbF.cell (j := 4) (v := .int .i64 0) rfl
          have m5 := hbF.cell (j := 5) (v := .int .i64 0) rfl
          have m6 := hbF.cell (j := 6) (v := .int .i64 zr) rfl
          have m7 := hbF.cell (j := 7) (v := .int .i64 mi) rfl
          have m8 := hbF.cell (j := 8) (v := .int .i64 mx) rfl
          have hxF : Ext w (wr.setCell ⟨w.heap.size + 1, 6, none⟩ (.int .i64 zr)) := hx6
          go_upto_region 42 with fail
          generalize wr.setCell ⟨w.heap.size + 1, 6, none⟩ (.int .i64 zr) = wf at *
          have HXF := Lib.hid hxF
          have HCF := Lib.hid hcF
          obtain ⟨q0, q1, q2, q3, q4, q5, q6, q7, q8, r0, r1, r2, r3, r4, r5, r6, r7, r8⟩ := box9 hcF
          clear hxF
          unfold nilS at m0 m1 m2 m3 q0 q1 q2 q3
          go_region
          all_goals go_wp2
          all_goals have hbz := (((((((((HCF.out.setCell 0 (.slice none 0 0)).setCell 1 (.slice none 0 0)).setCell 2 (.slice none 0 0)).setCell 3 (.slice none 0 0)).setCell 4 (.int .i64 0)).setCell 5 (.int .i64 0)).setCell 6 (.int .i64 zr)).setCell 7 (.int .i64 mi)).setCell 8 (.int .i64 mx)).drew
          all_goals refine bodyPost_ret (results_num rfl _ _ w.heap.size _ rfl hbz rfl) rfl ?_
          all_goals exact ⟨by rw [HN.out]; rfl, Ext.drew_ (Ext.setCell_ (Ext.setCell_ (Ext.setCell_ (Ext.setCell_ (Ext.setCell_ (Ext.setCell_ (Ext.setCell_ (Ext.setCell_ (Ext.setCell_ HXF.out (Nat.le_refl _) _ _) (Nat.le_refl _) _ _) (Nat.le_refl _) _ _) (Nat.le_refl _) _ _) (Nat.le_refl _) _ _) (Nat.le_refl _) _ _) (Nat.le_refl _) _ _) (Nat.le_refl _) _ _) (Nat.le_refl _) _ _)⟩
end Go.Proofs.YthoicieckodneaaGreatDoor.Pat

/- The document's own reading of patterns, plain laws: the halves of the document's own texts. No program. -/
namespace Go.Proofs.YthoicieckodneaaGreatDoor.Pat
open Go.RowKit Utf All Small Strs Build EncC
set_option linter.unusedVariables false
set_option linter.unusedSimpArgs false

structure HalfOk (l : List Pc) (n0 n1 : Nat) (t : NSt) : Prop where
  h01 : n0 < n1
  h12 : n1 ≤ l.length
  k1 : ∀ k (h : k < l.length), k < n0 → (l[k].1 == 4) = false
  k2 : ∀ k (h : k < l.length), n0 ≤ k → k < n1 → (l[k].1 == 4) = true
  k3 : ∀ k (h : k < l.length), n1 ≤ k → (l[k].1 == 4) = false
  tt : tot l ≤ 10000
  ne : ∀ p ∈ l, p.2 ≠ []
  run : runN st0 (textOf ((l.drop n0).take (n1 - n0))) = some t
  ende : endN t = true
  long : longN t = false
theorem take_P (P N S : List Pc) : (P ++ N ++ S).take P.length = P := by rw [List.append_assoc, List.take_left]
theorem drop_S (P N S : List Pc) : (P ++ N ++ S).drop (P.length + N.length) = S := by
  rw [show P.length + N.length = (P ++ N).length by simp, List.drop_left]
theorem mid_N (P N S : List Pc) : ((P ++ N ++ S).drop P.length).take (P.length + N.length - P.length) = N := by
  rw [List.append_assoc, List.drop_left, Nat.add_sub_cancel_left, List.take_left]
theorem low_at {l : List Pc} (h : low l) {k : Nat} (hk : k < l.length) : (l[k].1 == 4) = false := by
  have := h _ (List.getElem_mem hk)
  simp; omega
theorem half_parts (P N S : List Pc) (t : NSt) (hP : low P) (hN : N.all (isK 4) = true) (hN0 : N ≠ []) (hS : low S) (ht : tot (P ++ N ++ S) ≤ 10000) (hne : ∀ p ∈ P ++ N ++ S, p.2 ≠ [])
    (hr : runN st0 (textOf N) = some t) (he : endN t = true) (hl : longN t = false) : HalfOk (P ++ N ++ S) P.length (P.length + N.length) t := by
  have h0 : 0 < N.length := List.length_pos_iff.2 hN0
  refine ⟨by omega, by simp, ?_, ?_, ?_, ht, hne, by rw [mid_N]; exact hr, he, hl⟩
  · intro k h hk
    have e : (P ++ N ++ S)[k] = P[k] := by rw [List.getElem_append_left (by simp; omega), List.getElem_append_left hk]
    rw [e]; exact low_at hP hk
  · intro k h h1 h2
    have e : (P ++ N ++ S)[k] = N[k - P.length]'(by omega) := by rw [List.getElem_append_left (by simp; omega), List.getElem_append_right h1]
    rw [e]
    exact List.all_eq_true.1 hN _ (List.getElem_mem _)
  · intro k h h1
    have hk2 : k - (P ++ N).length < S.length := by simp at h ⊢; omega
    have e : (P ++ N ++ S)[k] = S[k - (P ++ N).length]'hk2 := by rw [List.getElem_append_right (by simp; omega)]
    rw [e]; exact low_at hS hk2
theorem tokS_ne : ∀ (xs : List Int) (q p : Bool) (l : List Pc), (∀ c ∈ xs, mayC c = true) → tokS q p xs = some l → ∀ x ∈ l, x.2 ≠ []
  | [], q, p, l, hm, h => by cases q <;> cases p <;> simp [tokS] at h <;> subst h <;> simp
  | c :: r, q, p, l, hm, h => by
    have hmr : ∀ d ∈ r, mayC d = true := fun d hd => hm d (List.mem_cons_of_mem _ hd)
    have e39 : encB 39 ≠ [] := encB_ne (by decide)
    have ec : encB c ≠ [] := encB_ne (hm c List.mem_cons_self)
    have key : ∀ (k : Int) (u : List UInt8) (m : List Pc), u ≠ [] → (∀ x ∈ m, x.2 ≠ []) → ∀ x ∈ (k, u) :: m, x.2 ≠ [] := by
      intro k u m hu hm x hx
      rcases List.mem_cons.1 hx with rfl | hx
      · exact hu
      · exact hm x hx
    cases p <;> rw [tokS] at h
    · split at h
      · exact tokS_ne r q true l hmr h
      · split at h
        · obtain ⟨m, hm', rfl⟩ := Option.map_eq_some_iff.1 h
          exact key _ _ m ec (tokS_ne r true false m hmr hm')
        · split at h
          · cases h
          · obtain ⟨m, hm', rfl⟩ := Option.map_eq_some_iff.1 h
            exact key _ _ m ec (tokS_ne r false false m hmr hm')
    · split at h
      · obtain ⟨m, hm', rfl⟩ := Option.map_eq_some_iff.1 h
        exact key _ _ m e39 (tokS_ne r q false m hmr hm')
      · split at h
        · split at h
          · cases h
          · obtain ⟨m, hm', rfl⟩ := Option.map_eq_some_iff.1 h
            exact key _ _ m ec (tokS_ne r false false m hmr hm')
        · obtain ⟨m, hm', rfl⟩ := Option.map_eq_some_iff.1 h
          exact key _ _ m ec (tokS_ne r true false m hmr hm')
/-! ### the document's own texts -/
theorem core_ref (g : GG) : ∃ t, runN st0 (coreG g) = some t ∧ endN t = true ∧ longN t = false ∧ numsN t = numG g := by
  have h1 := List.all_eq_true.1 ref_all2 _ (List.mem_range.2 (nat_lt g.zeros 7 (by omega)))
  have h2 := List.all_eq_true.1 h1 _ (List.mem_range.2 (nat_lt g.prim 5 (by omega)))
  have h3 := List.all_eq_true.1 h2 _ (List.mem_range.2 (nat_lt g.sec 5 (by omega)))
  have h4 := List.all_eq_true.1 h3 _ (List.mem_range.2 (nat_lt g.minf 4 (by omega)))
  have h5 := List.all_eq_true.1 h4 _ (List.mem_range.2 (nat_lt g.more 4 (by omega)))
  have h6 : (match runN st0 (coreG g) with
  | some t => endN t && !longN t && (match numP (coreG g) with | some (n, _) => decide (numsN t = n) | none => false)
  | none => false) = true := h5
  cases hr : runN st0 (coreG g) with
  | none => rw [hr] at h6; cases h6
  | some t =>
    rw [hr, numG_of g] at h6
    simp only [Bool.and_eq_true, Bool.not_eq_true', decide_eq_true_eq] at h6
    exact ⟨t, rfl, h6.1.1, h6.1.2, h6.2⟩
def secL (g : GG) : List Pc := tokOf (signC g.npre) ++ numTok [48] ++ tokOf (signC g.nsuf)
def tokG (g : GG) : List Pc := if g.two then firstL g ++ (5, [59]) :: secL g else firstL g
theorem tok_text (g : GG) : tokL (textF g) = some (tokG g) := by
  cases h2 : g.two
  · have e : textF g = (firstC g).flatMap encB := by rw [first_enc]; unfold textF coreG; rw [h2]; simp
    unfold tokL tokF tokG
    rw [e, chars_of _ (first_may g), h2]
    have := first_tok g [] rfl
    rw [List.append_nil] at this
    rw [this]
    show some (firstL g ++ []) = _
    simp
  · have e : textF g = (firstC g ++ 59 :: (signC g.npre ++ ([48] ++ signC g.nsuf))).flatMap encB := by
      rw [List.flatMap_append, first_enc, List.flatMap_cons, List.flatMap_append, List.flatMap_append, ← sign_enc, ← sign_enc]
      unfold textF coreG; rw [h2]
      have e1 : encB 59 = [59] := by decide
      have e2 : ([48] : List Int).flatMap encB = [48] := by decide
      rw [e1, e2]; simp
    have hm : ∀ x ∈ firstC g ++ 59 :: (signC g.npre ++ ([48] ++ signC g.nsuf)), mayC x = true := by
      intro x hx
      simp only [List.mem_append, List.mem_cons, List.not_mem_nil, or_false] at hx
      rcases hx with hx | rfl | hx | rfl | hx
      · exact first_may g x hx
      · decide
      · exact sign_may _ x hx
      · decide
      · exact sign_may _ x hx
    unfold tokL tokF tokG
    rw [e, chars_of _ hm, first_tok g _ rfl, tokS, if_neg (by decide), h2]
    simp only [Bool.false_eq_true, if_false]
    rw [if_neg (by decide), tokS_app _ _ _ _ _ (tok_of (sign_gd g.npre)).1 rfl, tok_num_app [48] _ rfl, (tok_of (sign_gd g.nsuf)).1]
    show some (firstL g ++ (kindL 59, encB 59) :: (tokOf (signC g.npre) ++ (numTok [48] ++ tokOf (signC g.nsuf)))) = _
    have e4 : ((kindL 59, encB 59) : Pc) = (5, [59]) := by decide
    rw [e4]
    unfold secL; simp
theorem tok_may (xs : List Int) : ∀ x ∈ tokOf (signC xs), x.2 ≠ [] := tokS_ne _ _ _ _ (sign_may xs) (tok_of (sign_gd xs)).1
theorem num_may {xs : List Int} (h : ∀ c ∈ xs, mayC c = true) : ∀ x ∈ numTok xs, x.2 ≠ [] := by
  intro x hx
  obtain ⟨c, hc, rfl⟩ := List.mem_map.1 hx
  exact encB_ne (h c hc)
theorem tot_tok (xs : List Int) : tot (tokOf (signC xs)) ≤ 80 := by
  have h1 := tokS_tot _ _ _ _ (tok_of (sign_gd xs)).1
  have h2 := signC_len xs
  omega
theorem tot_text (l : List Pc) : tot l = (textOf l).length := by
  induction l with
  | nil => rfl
  | cons p l ih => simp only [tot, textOf, List.map_cons, List.sum_cons, List.flatMap_cons, List.length_append] at ih ⊢; omega
theorem core_len (g : GG) : (coreG g).length ≤ 100 := by
  have h := textF_len g
  have z : nat g.zeros 7 < 7 := nat_lt g.zeros 7 (by omega)
  have p : nat g.prim 5 < 5 := nat_lt g.prim 5 (by omega)
  have q : nat g.sec 5 < 5 := nat_lt g.sec 5 (by omega)
  have a : nat g.minf 4 < 4 := nat_lt g.minf 4 (by omega)
  have b : nat g.more 4 < 4 := nat_lt g.more 4 (by omega)
  have hn : numN' (nat g.zeros 7) (nat g.prim 5) (nat g.sec 5) ≤ 9 := by unfold numN'; omega
  have h5 := numT_len (nat g.zeros 7) (nat g.prim 5) (nat g.sec 5) (numN' (nat g.zeros 7) (nat g.prim 5) (nat g.sec 5)) (numN' (nat g.zeros 7) (nat g.prim 5) (nat g.sec 5))
  have h6 := fracT_len (nat g.minf 4) (nat g.more 4)
  unfold coreG coreT
  simp only [List.length_append]; omega
theorem first_half (g : GG) : ∃ t, numsN t = numG g ∧ HalfOk (firstL g) (tokOf (signC g.pre)).length ((tokOf (signC g.pre)).length + (numTok (toC (coreG g))).length) t := by
  obtain ⟨t, h1, h2, h3, h4⟩ := core_ref g
  have hT := (toC_enc _ (coreG_of g).1).2.2
  refine ⟨t, h4, half_parts _ _ _ t (tok_of (sign_gd g.pre)).2 (num_kind _) (num_ne g) (tok_of (sign_gd g.suf)).2 ?_ ?_ (by rw [hT]; exact h1) h2 h3⟩
  · have a := tot_tok g.pre
    have b := tot_tok g.suf
    have c := core_len g
    rw [tot_app, tot_app, tot_text (numTok _), hT]; omega
  · intro x hx
    rcases List.mem_append.1 hx with hx | hx
    · rcases List.mem_append.1 hx with hx | hx
      · exact tok_may _ x hx
      · exact num_may (toC_enc _ (coreG_of g).1).2.1 x hx
    · exact tok_may _ x hx
def stZ : NSt := ⟨false, 1, 0, 0, 1, 1, 0, 0⟩
theorem second_half (g : GG) : HalfOk (secL g) (tokOf (signC g.npre)).length ((tokOf (signC g.npre)).length + 1) stZ := by
  refine half_parts (tokOf (signC g.npre)) (numTok [48]) (tokOf (signC g.nsuf)) stZ (tok_of (sign_gd g.npre)).2 (num_kind _) (by simp [numTok]) (tok_of (sign_gd g.nsuf)).2 ?_ ?_ (by kernel_rfl) (by kernel_rfl) (by kernel_rfl)
  · have a := tot_tok g.npre
    have b := tot_tok g.nsuf
    have c : tot (numTok [48]) = 1 := by kernel_rfl
    rw [tot_app, tot_app, c]; omega
  · intro x hx
    rcases List.mem_append.1 hx with hx | hx
    · rcases List.mem_append.1 hx with hx | hx
      · exact tok_may _ x hx
      · exact num_may (by simp; decide) x hx
    · exact tok_may _ x hx
theorem first_no5 (g : GG) : ∀ k (h : k < (firstL g).length), ((firstL g)[k].1 == 5) = false := by
  intro k h
  have hx := List.getElem_mem h
  generalize (firstL g)[k] = x at hx
  unfold firstL at hx
  rcases List.mem_append.1 hx with hx | hx
  · rcases List.mem_append.1 hx with hx | hx
    · have := (tok_of (sign_gd g.pre)).2 x hx; simp; omega
    · obtain ⟨c, hc, rfl⟩ := List.mem_map.1 hx; rfl
  · have := (tok_of (sign_gd g.suf)).2 x hx; simp; omega
theorem second_no5 (g : GG) : ∀ k (h : k < (secL g).length), ((secL g)[k].1 == 5) = false := by
  intro k h
  have hx := List.getElem_mem h
  generalize (secL g)[k] = x at hx
  unfold secL at hx
  rcases List.mem_append.1 hx with hx | hx
  · rcases List.mem_append.1 hx with hx | hx
    · have := (tok_of (sign_gd g.npre)).2 x hx; simp; omega
    · obtain ⟨c, hc, rfl⟩ := List.mem_map.1 hx; rfl
  · have := (tok_of (sign_gd g.nsuf)).2 x hx; simp; omega
end Go.Proofs.YthoicieckodneaaGreatDoor.Pat
