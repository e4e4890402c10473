/- Patterns of numbers: literals side by side as one: the walk of joined. -/
import Derived.Test.YtdkjkbbibdppoaaGreatDoorPat4
import Derived.Laws.OwnMore
namespace Go.Proofs.YtdkjkbbibdppoaaGreatDoor.Pat
open Go.RowKit Utf All Small Strs
set_option linter.unusedVariables false
set_option linter.unusedSimpArgs false

def joinStep (acc : List Pc) (p : Pc) : List Pc :=
  if p.1 = 0 then (match acc.getLast? with | some q => if q.1 = 0 then acc.dropLast ++ [(0, q.2 ++ p.2)] else acc ++ [p] | none => acc ++ [p]) else acc ++ [(p.1, [])]
def joinF (l : List Pc) : List Pc := l.foldl joinStep []
theorem joinF_take (l : List Pc) (k : Nat) (hk : k < l.length) : joinF (l.take (k + 1)) = joinStep (joinF (l.take k)) l[k] := by
  unfold joinF; rw [List.take_succ_eq_append_getElem hk, List.foldl_append]; rfl
theorem joinStep_place {acc : List Pc} {p : Pc} (h : p.1 ≠ 0) : joinStep acc p = acc ++ [(p.1, [])] := by unfold joinStep; rw [if_neg h]
theorem joinStep_nil {p : Pc} (h : p.1 = 0) : joinStep [] p = [p] := by unfold joinStep; rw [if_pos h]; rfl
theorem joinStep_new {acc : List Pc} {p q : Pc} (h : p.1 = 0) (hq : acc.getLast? = some q) (h2 : q.1 ≠ 0) : joinStep acc p = acc ++ [p] := by unfold joinStep; rw [if_pos h, hq]; simp [h2]
theorem joinStep_more {acc : List Pc} {p q : Pc} (h : p.1 = 0) (hq : acc.getLast? = some q) (h2 : q.1 = 0) : joinStep acc p = acc.dropLast ++ [(0, q.2 ++ p.2)] := by unfold joinStep; rw [if_pos h, hq]; simp [h2]
theorem joinStep_len (acc : List Pc) (p : Pc) : (joinStep acc p).length ≤ acc.length + 1 := by
  unfold joinStep
  split
  · split
    · split <;> simp
    · simp
  · simp
theorem joinF_len (l : List Pc) : (joinF l).length ≤ l.length := by
  have : ∀ (l acc : List Pc), (l.foldl joinStep acc).length ≤ acc.length + l.length := by
    intro l
    induction l with
    | nil => intro acc; exact Nat.le_refl _
    | cons p l ih => intro acc; have h1 := ih (joinStep acc p); have h2 := joinStep_len acc p; simp only [List.foldl_cons, List.length_cons]; omega
  have h := this l []
  simpa [joinF] using h
/-- how many bytes the texts have -/
def tot (l : List Pc) : Nat := (l.map (·.2.length)).sum
theorem tot_app (l m : List Pc) : tot (l ++ m) = tot l + tot m := by simp [tot]
theorem tot_one (p : Pc) : tot [p] = p.2.length := by simp [tot]
theorem tot_mem {l : List Pc} {p : Pc} (h : p ∈ l) : p.2.length ≤ tot l := by
  induction l with
  | nil => simp at h
  | cons q l ih =>
    have e : tot (q :: l) = q.2.length + tot l := by simp [tot]
    rcases List.mem_cons.1 h with rfl | h
    · omega
    · have := ih h; omega
theorem tot_take (l : List Pc) (k : Nat) : tot (l.take k) ≤ tot l := by
  conv => rhs; rw [← List.take_append_drop k l, tot_app]
  omega
theorem tot_drop (l : List Pc) (k : Nat) : tot (l.drop k) ≤ tot l := by
  conv => rhs; rw [← List.take_append_drop k l, tot_app]
  omega
theorem tot_step (acc : List Pc) (p : Pc) : tot (joinStep acc p) ≤ tot acc + p.2.length := by
  unfold joinStep
  split
  · split
    · rename_i q hq
      split
      · have e : acc = acc.dropLast ++ [q] := by
          obtain ⟨ys, h⟩ := List.getLast?_eq_some_iff.1 hq
          rw [h]; simp
        have e2 : tot acc = tot acc.dropLast + q.2.length := by conv => lhs; rw [e, tot_app, tot_one]
        rw [tot_app, tot_one, e2, List.length_append]; omega
      · rw [tot_app, tot_one]; omega
    · rw [tot_app, tot_one]; omega
  · rw [tot_app, tot_one]; simp
theorem tot_joinF (l : List Pc) : tot (joinF l) ≤ tot l := by
  have : ∀ (l acc : List Pc), tot (l.foldl joinStep acc) ≤ tot acc + tot l := by
    intro l
    induction l with
    | nil => intro acc; exact Nat.le_add_right _ _
    | cons p l ih =>
      intro acc
      have h1 := ih (joinStep acc p); have h2 := tot_step acc p
      have e : tot (p :: l) = p.2.length + tot l := by simp [tot]
      simp only [List.foldl_cons]; omega
  have h := this l []
  simpa [joinF, tot] using h
theorem pcsV_set (l : List Pc) (q : Pc) (k : Int) (t : List UInt8) : (pcsV (l ++ [q])).set (l.length * 2 + 1) (.string ⟨t.toArray⟩) = pcsV (l ++ [(q.1, t)]) := by
  rw [pcsV_app, pcsV_app, List.set_append_right _ _ (by rw [pcsV_len]; omega), pcsV_len]
  have e : l.length * 2 + 1 - 2 * l.length = 1 := by omega
  rw [e]; rfl
/-- one cell of an own row is written -/
theorem Acc.set {e sz : Nat} {w0 w : World} {g c n : Nat} {cs : List Value} (h : Acc e sz w0 w (some ⟨g, 0, none⟩) c n cs) (j : Nat) (u : Value) : Acc e sz w0 (w.setCell ⟨g, j, none⟩ u) (some ⟨g, 0, none⟩) c n (cs.set j u) := by
  obtain ⟨h1, h2⟩ := h.own.stored j u
  exact ⟨h1, h.ext.grown h2 h.ext.size (fun k hk => by injection hk with hk; have := (h.own.lt g rfl).1; omega)⟩
theorem Acc.head {e sz : Nat} {w0 w : World} {b off c n : Nat} {cs : List Value} (h : Acc e sz w0 w (some ⟨b, off, none⟩) c n cs) : off = 0 := by
  rcases h.own.2 with ⟨hv, _⟩ | ⟨g, cap, cur, hv, _⟩
  · simp at hv
  · simp at hv; exact hv.1.2

/-- a capacity that may be -/
def Okc (B : Option Addr) (d : Nat) : Prop := d ≤ maxLen ∧ (B = none → d = 0)
theorem Acc.okc {e sz : Nat} {w0 w : World} {A : Option Addr} {c n : Nat} {cs : List Value} (h : Acc e sz w0 w A c n cs) : Okc A c := by
  refine ⟨h.cap.2, fun ha => ?_⟩
  rcases h.own.2 with ⟨hv, _⟩ | ⟨g, cap, cur, hv, _⟩
  · injection hv
  · rw [ha] at hv; injection hv with h1; cases h1
/-- a slice that lies in a block behind w's -/
def Fresh (w : World) (B : Option Addr) : Prop := ∀ a, B = some a → w.heap.size ≤ a.block
theorem Acc.fresh {e sz : Nat} {w0 w : World} {A : Option Addr} {c n : Nat} {cs : List Value} (h : Acc e sz w0 w A c n cs) : Fresh w0 A := fun a ha => by
  subst ha; exact (h.own.lt a.block rfl).1
set_option maxRecDepth 100000 in
set_option maxHeartbeats 4000000 in
theorem joined_ (A : Option Addr) (c : Nat) (l : List Pc) (w : World) (hr : Row w A (pcsV l)) (hl : l.length ≤ 1000000000) (ht : tot l ≤ 100000000000) :
    Calls Tryz.prog 96 #[.slice A l.length c] w fun e w' => ∃ B d, e = .returned (.slice B (joinF l).length d) ∧ Row w' B (pcsV (joinF l)) ∧ (joinF l).length ≤ d ∧ Okc B d ∧ Fresh w B ∧ Ext w w' := by
  go_enter Tryz.func96, Tryz.ntmps96
  go_wp2
  go_loopw [3, 9] (fun out i wr => ∃ (k : Nat) (acc : List Pc) (B : Option Addr) (d : Nat), k ≤ l.length ∧ i = .int .i64 k ∧ out = .slice B acc.length d ∧ Acc 96 2 w wr B d acc.length (pcsV acc) ∧ acc.length ≤ k ∧ Hid (joinF (l.take k) = acc)) (fun _ i _ => l.length - (intOf i).toNat)
  case atStart => exact ⟨0, [], none, 0, Nat.zero_le _, rfl, rfl, Acc.start _ _ _, Nat.le_refl _, Lib.hid rfl⟩
  case round =>
    obtain ⟨k, acc, B, d, hk, rfl, rfl, hacc, hak, HK⟩ := hrel
    by_cases hlt : k < l.length
    · obtain ⟨b, off, rfl, hc1, hc2⟩ := row_pc (hacc.keep hr) hlt
      have HJ : Hid (joinF (l.take (k + 1)) = joinStep acc l[k]) := Lib.hid (by rw [joinF_take l k hlt, HK.out])
      have HR := Lib.hid (pc_range hc1 hc2)
      have hbig := hacc.cap
      have htx : l[k].2.length ≤ tot l := tot_mem (List.getElem_mem hlt)
      have htq : ∀ q ∈ acc, q.2.length ≤ tot l := fun q hq => Nat.le_trans (tot_mem (by rw [HK.out]; exact hq)) (Nat.le_trans (tot_joinF _) (tot_take l k))
      have HTQ := Lib.hid htq
      clear HK htq
      generalize l[k] = x at *
      obtain ⟨xk, xt⟩ := x
      dsimp only at hc1 hc2 HR htx
      by_cases hk0 : xk = 0
      · subst hk0
        by_cases hn : acc.length = 0
        · have hnil := List.eq_nil_of_length_eq_zero hn
          subst hnil
          have HJ2 : Hid (joinF (l.take (k + 1)) = [(0, xt)]) := Lib.hid (by rw [HJ.out, joinStep_nil rfl])
          have hacc2 := hacc.alloc (.cells #[.int .i64 0, .string ⟨xt.toArray⟩] 96)
          clear HJ hacc
          go_wp2_with (first
            | (refine wpList_load_mid rfl 96 (.tmp 11) rfl b (off + k * 2) rfl [.int .i64 0, .string ⟨xt.toArray⟩] _ HR.out Tryz.underlying96 rfl infoPc ?_)
            | (at_builtin; refine wp_app ei_pc rfl (.tmp 16) (.tmp 18) rfl w _ B d 0 _ rfl hacc2 [.int .i64 0, .string ⟨xt.toArray⟩] 1 1 (slice_new _ _ _ _) rfl (by simp [Value.oneCell']) (by omega) (by unfold maxLen; omega) ?_; intro A1 c1 w3 hacc3 _ _; clear hacc2))
          go_roundw
          case rel => exact ⟨k + 1, [(0, xt)], A1, c1, by omega, by go_num, by simp, by simpa [pcsV_one, pcsV_nil] using hacc3, by simp, HJ2⟩
          case measure => simp [intOf]; omega
        · obtain ⟨init, q, hiq⟩ : ∃ init q, acc = init ++ [q] := by
            rcases List.eq_nil_or_concat acc with h | ⟨i, q, h⟩
            · subst h; exact absurd rfl hn
            · exact ⟨i, q, by simpa using h⟩
          have hgl : acc.getLast? = some q := by rw [hiq]; simp
          have hdl : acc.dropLast = init := by rw [hiq]; simp
          have hil : init.length = acc.length - 1 := by rw [hiq]; simp
          obtain ⟨g, off', rfl, hq1, hq2⟩ := row_pc hacc.row (k := acc.length - 1) (by omega)
          have hoff := Acc.head hacc
          subst hoff
          have hgq : acc[acc.length - 1]'(by omega) = q := by
            have := List.getLast?_eq_getElem? (l := acc)
            rw [hgl, List.getElem?_eq_getElem (by omega)] at this
            exact (Option.some.inj this).symm
          rw [hgq, Nat.zero_add] at hq1 hq2
          have hz0 : 0 ≤ (acc.length : Int) - 1 := by omega
          have hz1 : ((acc.length : Int) - 1).toNat = acc.length - 1 := by omega
          have hz2 : 0 ≤ (acc.length : Int) - 1 ∧ (acc.length : Int) - 1 < acc.length := by omega
          have hx0 := Ext.alloc_ (Ext.refl wr) (.cells #[.int .i64 0, .string ⟨xt.toArray⟩] 96)
          have hp1 := Ext.cell_ hx0 hq1
          have hp2 := Ext.cell_ hx0 hq2
          have hacc2 := hacc.alloc (.cells #[.int .i64 0, .string ⟨xt.toArray⟩] 96)
          have hfz := hacc2.own.frozenAt ((acc.length - 1) * 2 + 1)
          have HSET : Hid ((pcsV acc).set ((acc.length - 1) * 2 + 1) (.string ⟨(q.2 ++ xt).toArray⟩) = pcsV (init ++ [(q.1, q.2 ++ xt)])) := Lib.hid (by rw [← hil, hiq]; exact pcsV_set init q 0 _)
          have HIL : ∀ p : Pc, Hid ((init ++ [p]).length = acc.length) := fun p => Lib.hid (by rw [hiq]; simp)
          have hqt := HTQ.out q (by rw [hiq]; simp)
          obtain ⟨qk, qt⟩ := q
          dsimp only at hp1 hp2 hq1 hq2 HSET hgl hqt
          have hsum : ¬ 9223372036854775807 < qt.length + xt.length := by omega
          by_cases hqk : qk = 0
          · subst hqk
            have HJ2 : Hid (joinF (l.take (k + 1)) = init ++ [(0, qt ++ xt)]) := Lib.hid (by rw [HJ.out, joinStep_more rfl hgl rfl, hdl])
            clear HJ hacc hiq hgl hdl hil hgq hq1 hq2
            go_wp2_with (refine wpList_load_mid rfl 96 (.tmp 11) rfl b (off + k * 2) rfl [.int .i64 0, .string ⟨xt.toArray⟩] _ HR.out Tryz.underlying96 rfl infoPc ?_)
            go_region
            all_goals
              go_wp2
              go_roundw
              case rel => exact ⟨k + 1, init ++ [(0, qt ++ xt)], _, d, by omega, by go_num, by rw [(HIL _).out], by
                have h := (Acc.set hacc2 ((acc.length - 1) * 2 + 1) (.string ⟨(qt ++ xt).toArray⟩)).drew
                rw [HSET.out] at h
                rw [(HIL _).out]
                simpa [app_mk] using h, by rw [(HIL _).out]; omega, HJ2⟩
              case measure => simp [intOf]; omega
          · have hqb : (qk == 0) = false := by simpa using hqk
            have HJ2 : Hid (joinF (l.take (k + 1)) = acc ++ [(0, xt)]) := Lib.hid (by rw [HJ.out, joinStep_new rfl hgl hqk])
            clear HJ hacc hiq hgl hdl hil hgq hq1 hq2 hp2
            go_wp2_with (first
              | (refine wpList_load_mid rfl 96 (.tmp 11) rfl b (off + k * 2) rfl [.int .i64 0, .string ⟨xt.toArray⟩] _ HR.out Tryz.underlying96 rfl infoPc ?_)
              | (at_builtin; refine wp_app ei_pc rfl (.tmp 16) (.tmp 18) rfl w _ _ d acc.length _ rfl hacc2 [.int .i64 0, .string ⟨xt.toArray⟩] 1 1 (slice_new _ _ _ _) rfl (by simp [Value.oneCell']) (by omega) (by unfold maxLen; omega) ?_; intro A1 c1 w3 hacc3 _ _; clear hacc2))
            go_roundw
            case rel => exact ⟨k + 1, acc ++ [(0, xt)], A1, c1, by omega, by go_num, by simp, by rw [pcsV_app, pcsV_one]; simpa using hacc3, by simp; omega, HJ2⟩
            case measure => simp [intOf]; omega
      · have hkb : (xk == 0) = false := by simpa using hk0
        have HJ2 : Hid (joinF (l.take (k + 1)) = acc ++ [(xk, [])]) := Lib.hid (by rw [HJ.out, joinStep_place hk0])
        have hacc2 := hacc.alloc (.cells #[.int .i64 xk, .string ⟨xt.toArray⟩] 96)
        clear HJ hacc
        go_wp2_with (first
          | (refine wpList_load_mid rfl 96 (.tmp 11) rfl b (off + k * 2) rfl [.int .i64 xk, .string ⟨xt.toArray⟩] _ HR.out Tryz.underlying96 rfl infoPc ?_)
          | (at_builtin; refine wp_app ei_pc rfl (.tmp 24) (.tmp 28) rfl w _ B d acc.length _ rfl hacc2 [.int .i64 xk, .string ⟨#[]⟩] 1 1 (slice_new _ _ _ _) rfl (by simp [Value.oneCell']) (by omega) (by unfold maxLen; omega) ?_; intro A1 c1 w3 hacc3 _ _; clear hacc2))
        go_roundw
        case rel => exact ⟨k + 1, acc ++ [(xk, [])], A1, c1, by omega, by go_num, by simp, by rw [pcsV_app, pcsV_one]; simpa using hacc3, by simp; omega, HJ2⟩
        case measure => simp [intOf]; omega
    · have e : k = l.length := by omega
      subst e
      have HK2 : Hid (joinF l = acc) := Lib.hid (by rw [← HK.out, List.take_length])
      clear HK
      go_wp2
      go_ret
      exact ⟨B, d, by rw [HK2.out]; rfl, by rw [HK2.out]; exact hacc.row, by rw [HK2.out]; exact hacc.cap.1, Acc.okc hacc, Acc.fresh hacc, hacc.ext⟩
theorem joined_n (A : Option Addr) (c n : Nat) (l : List Pc) (w : World) (hn : l.length = n) (hr : Row w A (pcsV l)) (hl : l.length ≤ 1000000000) (ht : tot l ≤ 100000000000) :
    Calls Tryz.prog 96 #[.slice A n c] w fun e w' => ∃ B d, e = .returned (.slice B (joinF l).length d) ∧ Row w' B (pcsV (joinF l)) ∧ (joinF l).length ≤ d ∧ Okc B d ∧ Fresh w B ∧ Ext w w' := by
  subst hn; exact joined_ A c l w hr hl ht
end Go.Proofs.YtdkjkbbibdppoaaGreatDoor.Pat
