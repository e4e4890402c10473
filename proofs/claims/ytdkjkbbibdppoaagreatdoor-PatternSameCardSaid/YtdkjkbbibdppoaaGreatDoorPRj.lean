/- The document's own reading of patterns: joined, none. -/
import Derived.Test.YtdkjkbbibdppoaaGreatDoorPSm
namespace Go.Proofs.YtdkjkbbibdppoaaGreatDoor.Pat
open Go.RowKit Utf All Small Strs Build EncC
set_option linter.unusedVariables false
set_option linter.unusedSimpArgs false

def litsJ (t : List UInt8) : List Pc := if t = [] then [] else [(0, t)]
/-- the pieces so far end in no literal -/
def endsP (acc : List Pc) : Prop := ∀ q, acc.getLast? = some q → q.1 ≠ 0
theorem endsP_snoc (acc : List Pc) (p : Pc) (h : p.1 ≠ 0) : endsP (acc ++ [p]) := by
  intro q hq; simp at hq; subst hq; exact h
theorem lit_step {acc : List Pc} {t u : List UInt8} (h : endsP acc) (hu : u ≠ []) : joinStep (acc ++ litsJ t) (0, u) = acc ++ litsJ (t ++ u) := by
  have hne : t ++ u ≠ [] := by intro e; simp at e; exact hu e.2
  unfold litsJ
  rw [if_neg hne]
  by_cases ht : t = []
  · subst ht
    rw [if_pos rfl, List.append_nil, List.nil_append]
    cases hl : acc.getLast? with
    | none =>
      have : acc = [] := List.getLast?_eq_none_iff.1 hl
      subst this
      rw [joinStep_nil rfl]; rfl
    | some q => rw [joinStep_new rfl hl (h q hl)]
  · rw [if_neg ht, joinStep_more (q := (0, t)) rfl (by simp) rfl]
    simp
theorem place_step {acc : List Pc} {t : List UInt8} {k : Int} {u : List UInt8} (hk : k ≠ 0) : joinStep (acc ++ litsJ t) (k, u) = acc ++ litsJ t ++ [(k, [])] := joinStep_place hk
theorem litsJ_some {t : List UInt8} (h : t ≠ []) : litsJ t = [(0, t)] := if_neg h
theorem litsJ_nil : litsJ [] = [] := rfl
theorem bs_nil (t : List UInt8) (h : t ≠ []) : ((⟨t.toArray⟩ : ByteArray).toList == (⟨#[]⟩ : ByteArray).toList) = false := by
  have := beq_strL ⟨t.toArray⟩ ⟨#[]⟩
  rw [this]
  have e1 : (⟨t.toArray⟩ : ByteArray).data.toList = t := rfl
  have e2 : (⟨#[]⟩ : ByteArray).data.toList = [] := rfl
  rw [e1, e2]
  simpa using h
set_option maxHeartbeats 4000000 in
set_option maxRecDepth 100000 in
theorem joined_ref (A : Option Addr) (c : Nat) (l : List Pc) (w : World) (hr : Row w A (pcsV l)) (hl : l.length ≤ 1000000) (ht : tot l ≤ 1000000) (hne : ∀ p ∈ l, p.2 ≠ []) :
    Calls Tryz.prog 101 #[.slice A l.length c] w fun e w' => ∃ B d, e = .returned (.slice B (joinF l).length d) ∧ Row w' B (pcsV (joinF l)) ∧ (joinF l).length ≤ d ∧ Okc B d ∧ Fresh w B ∧ Ext w w' := by
  have HNE := Lib.hid hne
  clear hne
  go_enter Tryz.func101, Tryz.ntmps101
  go_wp2
  go_loopw [3, 4, 5] (fun out tx i wr => ∃ (k : Nat) (acc : List Pc) (t : List UInt8) (B : Option Addr) (d : Nat), k ≤ l.length ∧ i = .int .i64 k ∧ tx = .string ⟨t.toArray⟩ ∧ out = .slice B acc.length d ∧ Acc 106 2 w wr B d acc.length (pcsV acc) ∧ acc.length ≤ 2 * k ∧ t.length ≤ tot (l.take k) ∧ endsP acc ∧ Hid (joinF (l.take k) = acc ++ litsJ t)) (fun _ _ i _ => l.length - (intOf i).toNat)
  case atStart => exact ⟨0, [], [], none, 0, Nat.zero_le _, rfl, rfl, rfl, Acc.start _ _ _, by simp, by simp, (fun q h => by simp at h), Lib.hid rfl⟩
  case round =>
    obtain ⟨k, acc, t, B, d, hk, rfl, rfl, rfl, hacc, hak, htl, hend, HK⟩ := hrel
    have HEND := Lib.hid hend
    clear hend
    by_cases hlt : k < l.length
    · obtain ⟨b, off, rfl, hw1, hw2⟩ := row_pc hr hlt
      have hc1 := Ext.cell_ hacc.ext hw1
      have hc2 := Ext.cell_ hacc.ext hw2
      have HJ : Hid (joinF (l.take (k + 1)) = joinStep (acc ++ litsJ t) l[k]) := Lib.hid (by rw [joinF_take l k hlt, HK.out])
      have HTT : Hid (tot (l.take (k + 1)) = tot (l.take k) + l[k].2.length) := Lib.hid (by rw [List.take_succ_eq_append_getElem hlt, tot_app, tot_one])
      have htk := tot_take l k
      have htk1 := tot_take l (k + 1)
      have hx0 := HNE.out _ (List.getElem_mem hlt)
      have hbig := hacc.cap
      generalize l[k] = x at *
      obtain ⟨xk, xt⟩ := x
      dsimp only at hc1 hc2 hw1 hw2 hx0 HTT
      have hxt : xt.length ≤ 1000000 := by have := HTT.out; omega
      clear HK
      by_cases hk0 : xk = 0
      · subst hk0
        have HJ2 : Hid (joinF (l.take (k + 1)) = acc ++ litsJ (t ++ xt)) := Lib.hid (by rw [HJ.out, lit_step HEND.out hx0])
        clear HJ
        go_wp2
        refine ⟨?_, by simp [intOf] <;> omega⟩
        exact ⟨k + 1, acc, t ++ xt, B, d, by omega, by go_num, by rw [app_mk], rfl, hacc, by omega, by rw [List.length_append, HTT.out]; omega, HEND.out, HJ2⟩
      · have hkb : (xk == 0) = false := by simpa using hk0
        have HJ2 : Hid (joinF (l.take (k + 1)) = acc ++ litsJ t ++ [(xk, [])]) := Lib.hid (by rw [HJ.out, place_step hk0])
        have HE2 : Hid (endsP (acc ++ litsJ t ++ [(xk, [])])) := Lib.hid (endsP_snoc _ _ hk0)
        clear HJ hk0
        by_cases ht0 : t = []
        · subst ht0
          go_wp2_with (at_builtin; refine wp_app ei_b rfl (.tmp 32) (.tmp 39) rfl w _ B d acc.length _ rfl hacc [.int .i64 xk, .string ⟨#[]⟩] 1 1 (by rfl) rfl (by simp [Value.oneCell']) (by omega) (by unfold maxLen; omega) ?_; intro A1 c1 w3 hacc3 _ _; clear hacc)
          refine ⟨?_, by simp [intOf] <;> omega⟩
          exact ⟨k + 1, acc ++ [(xk, [])], [], A1, c1, by omega, by go_num, rfl, by simp, by rw [pcsV_app, pcsV_one]; simpa using hacc3, by simp; omega, by simp, by have := HE2.out; simpa [litsJ_nil] using this, Lib.hid (by rw [HJ2.out]; simp [litsJ_nil])⟩
        · obtain ⟨y, ys, rfl⟩ : ∃ y ys, t = y :: ys := by
            cases t with
            | nil => exact absurd rfl ht0
            | cons y ys => exact ⟨y, ys, rfl⟩
          clear ht0
          have hlt3 : acc.length + 1 ≤ 2 * k + 1 := by omega
          go_wp2_with (first
            | (at_builtin; refine wp_app ei_b rfl (.tmp 27) (.tmp 30) rfl w _ B d acc.length _ rfl hacc [.int .i64 0, .string ⟨(y :: ys).toArray⟩] 1 1 (by rfl) rfl (by simp [Value.oneCell']) (by omega) (by unfold maxLen; omega) ?_; intro A1 c1 w3 hacc3 _ _; have q1 := Ext.cell_ hacc3.ext hw1; have q2 := Ext.cell_ hacc3.ext hw2; clear hacc hc1 hc2)
            | (at_builtin; refine wp_app ei_b rfl (.tmp 32) (.tmp 39) rfl w _ A1 c1 (acc.length + 1) _ rfl hacc3 [.int .i64 xk, .string ⟨#[]⟩] 1 1 (by rfl) rfl (by simp [Value.oneCell']) (by omega) (by unfold maxLen; omega) ?_; intro A2 c2 w4 hacc4 _ _; clear hacc3))
          refine ⟨?_, by simp [intOf] <;> omega⟩
          exact ⟨k + 1, acc ++ [(0, y :: ys)] ++ [(xk, [])], [], A2, c2, by omega, by go_num, rfl, by simp, by rw [pcsV_app, pcsV_app, pcsV_one, pcsV_one]; simpa using hacc4, by simp; omega, by simp, by have := HE2.out; rwa [litsJ_some (by simp)] at this, Lib.hid (by rw [HJ2.out, litsJ_some (by simp)]; simp [litsJ_nil])⟩
    · have e : k = l.length := by omega
      subst e
      rw [List.take_length] at HK htl
      have hbig := hacc.cap
      by_cases ht0 : t = []
      · subst ht0
        have HF : Hid (joinF l = acc) := Lib.hid (by rw [HK.out]; simp [litsJ_nil])
        go_wp2
        go_ret
        exact ⟨B, d, by rw [HF.out]; rfl, by rw [HF.out]; exact hacc.row, by rw [HF.out]; exact hacc.cap.1, Acc.okc hacc, Acc.fresh hacc, hacc.ext⟩
      · obtain ⟨y, ys, rfl⟩ : ∃ y ys, t = y :: ys := by
          cases t with
          | nil => exact absurd rfl ht0
          | cons y ys => exact ⟨y, ys, rfl⟩
        have HF : Hid (joinF l = acc ++ [(0, y :: ys)]) := Lib.hid (by rw [HK.out, litsJ_some (by simp)])
        clear ht0
        go_wp2_with (at_builtin; refine wp_app ei_b rfl (.tmp 43) (.tmp 46) rfl w _ B d acc.length _ rfl hacc [.int .i64 0, .string ⟨(y :: ys).toArray⟩] 1 1 (by rfl) rfl (by simp [Value.oneCell']) (by omega) (by unfold maxLen; omega) ?_; intro A1 c1 w3 hacc3 _ _; clear hacc)
        go_ret
        exact ⟨A1, c1, by rw [HF.out]; simp, by rw [HF.out, pcsV_app, pcsV_one]; exact hacc3.row, by rw [HF.out]; simpa using hacc3.cap.1, Acc.okc hacc3, Acc.fresh hacc3, hacc3.ext⟩
theorem joined_refn (A : Option Addr) (c n : Nat) (l : List Pc) (w : World) (hn : l.length = n) (hr : Row w A (pcsV l)) (hl : l.length ≤ 1000000) (ht : tot l ≤ 1000000) (hne : ∀ p ∈ l, p.2 ≠ []) :
    Calls Tryz.prog 101 #[.slice A n c] w fun e w' => ∃ B d, e = .returned (.slice B (joinF l).length d) ∧ Row w' B (pcsV (joinF l)) ∧ (joinF l).length ≤ d ∧ Okc B d ∧ Fresh w B ∧ Ext w w' := by
  subst hn; exact joined_ref A c l w hr hl ht hne

set_option maxHeartbeats 2000000 in
set_option maxRecDepth 100000 in
theorem none_ref (A : Option Addr) (c : Nat) (p : List Pc) (S2 S3 S4 : Value) (x : Nums) (w : World) (hA : Row w A (pcsV p)) (hcA : Okc A c) (hp : p.length ≤ 1000000) :
    Calls Tryz.prog 57 #[.agg (patC (.slice A p.length c) S2 S3 S4 x).toArray] w fun e w' => ∃ B d, e = .returned (.slice B (p.length + 1) d) ∧ Row w' B (pcsV ((3, []) :: p)) ∧ Okc B d ∧ Fresh w B ∧ Ext w w' := by
  have hb1 := Box.new w 35 (patC (.slice A p.length c) S2 S3 S4 x)
  have hx1 : Ext w (w.alloc (.cells (patC (.slice A p.length c) S2 S3 S4 x).toArray 35)) := Ext.alloc_ (Ext.refl w) _
  have HL := Lib.hid (pcsV_len p)
  go_enter Tryz.func57, Tryz.ntmps57
  go_upto_region 1 with fail
  change Code.wp _ _ _ _ (w.alloc (.cells (patC (.slice A p.length c) S2 S3 S4 x).toArray 35))
  generalize w.alloc (.cells (patC (.slice A p.length c) S2 S3 S4 x).toArray 35) = w1 at *
  have k0 := hb1.cell (j := 0) (v := .slice A p.length c) rfl
  have hacc := Acc.start 106 2 w1
  have HX := Lib.hid hx1
  clear hx1 hb1
  go_wp2_with (first
    | (at_builtin; refine wp_app ei_b rfl (.tmp 4) (.tmp 6) rfl w1 _ none 0 0 _ rfl hacc [.int .i64 3, .string ⟨#[]⟩] 1 1 (by rfl) rfl (by simp [Value.oneCell']) (by omega) (by unfold maxLen; omega) ?_; intro A1 c1 w3 hacc3 _ _; have q0 := Ext.cell_ hacc3.ext k0; clear hacc)
    | (at_builtin; refine wp_src ei_b rfl (.tmp 8) (.tmp 10) rfl w1 _ A1 c1 1 _ rfl hacc3 A p.length c (pcsV p) rfl (hA.below (HX.out.trans hacc3.ext) (Nat.le_refl _)) hcA (by rw [HL.out]; omega) (pcs_oneCell p) (by omega) (by unfold maxLen; omega) ?_; intro A2 c2 w4 hacc4 _; clear hacc3))
  go_ret
  have hlen : 0 + 1 + p.length = p.length + 1 := by omega
  exact ⟨A2, c2, by rw [Nat.add_comm]; rfl, hacc4.row, Acc.okc hacc4, fresh_weak (Acc.fresh hacc4) HX.out.size, HX.out.trans hacc4.ext⟩
end Go.Proofs.YtdkjkbbibdppoaaGreatDoor.Pat
