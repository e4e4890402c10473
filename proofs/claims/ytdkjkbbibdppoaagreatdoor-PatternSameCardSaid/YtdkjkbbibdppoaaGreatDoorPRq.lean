/- The document's own reading of patterns, plain laws: the halves of the document's own texts. No program. -/
import Derived.Test.YtdkjkbbibdppoaaGreatDoorPRn
namespace Go.Proofs.YtdkjkbbibdppoaaGreatDoor.Pat
open Go.RowKit Utf All Small Strs Build EncC
set_option linter.unusedVariables false
set_option linter.unusedSimpArgs false

structure HalfOk (l : List Pc) (n0 n1 : Nat) (t : NSt) : Prop where
  h01 : n0 < n1
  h12 : n1 ≤ l.length
  k1 : ∀ k (h : k < l.length), k < n0 → (l[k].1 == 4) = false
  k2 : ∀ k (h : k < l.length), n0 ≤ k → k < n1 → (l[k].1 == 4) = true
  k3 : ∀ k (h : k < l.length), n1 ≤ k → (l[k].1 == 4) = false
  tt : tot l ≤ 10000
  ne : ∀ p ∈ l, p.2 ≠ []
  run : runN st0 (textOf ((l.drop n0).take (n1 - n0))) = some t
  ende : endN t = true
  long : longN t = false
theorem take_P (P N S : List Pc) : (P ++ N ++ S).take P.length = P := by rw [List.append_assoc, List.take_left]
theorem drop_S (P N S : List Pc) : (P ++ N ++ S).drop (P.length + N.length) = S := by
  rw [show P.length + N.length = (P ++ N).length by simp, List.drop_left]
theorem mid_N (P N S : List Pc) : ((P ++ N ++ S).drop P.length).take (P.length + N.length - P.length) = N := by
  rw [List.append_assoc, List.drop_left, Nat.add_sub_cancel_left, List.take_left]
theorem low_at {l : List Pc} (h : low l) {k : Nat} (hk : k < l.length) : (l[k].1 == 4) = false := by
  have := h _ (List.getElem_mem hk)
  simp; omega
theorem half_parts (P N S : List Pc) (t : NSt) (hP : low P) (hN : N.all (isK 4) = true) (hN0 : N ≠ []) (hS : low S) (ht : tot (P ++ N ++ S) ≤ 10000) (hne : ∀ p ∈ P ++ N ++ S, p.2 ≠ [])
    (hr : runN st0 (textOf N) = some t) (he : endN t = true) (hl : longN t = false) : HalfOk (P ++ N ++ S) P.length (P.length + N.length) t := by
  have h0 : 0 < N.length := List.length_pos_iff.2 hN0
  refine ⟨by omega, by simp, ?_, ?_, ?_, ht, hne, by rw [mid_N]; exact hr, he, hl⟩
  · intro k h hk
    have e : (P ++ N ++ S)[k] = P[k] := by rw [List.getElem_append_left (by simp; omega), List.getElem_append_left hk]
    rw [e]; exact low_at hP hk
  · intro k h h1 h2
    have e : (P ++ N ++ S)[k] = N[k - P.length]'(by omega) := by rw [List.getElem_append_left (by simp; omega), List.getElem_append_right h1]
    rw [e]
    exact List.all_eq_true.1 hN _ (List.getElem_mem _)
  · intro k h h1
    have hk2 : k - (P ++ N).length < S.length := by simp at h ⊢; omega
    have e : (P ++ N ++ S)[k] = S[k - (P ++ N).length]'hk2 := by rw [List.getElem_append_right (by simp; omega)]
    rw [e]; exact low_at hS hk2
theorem tokS_ne : ∀ (xs : List Int) (q p : Bool) (l : List Pc), (∀ c ∈ xs, mayC c = true) → tokS q p xs = some l → ∀ x ∈ l, x.2 ≠ []
  | [], q, p, l, hm, h => by cases q <;> cases p <;> simp [tokS] at h <;> subst h <;> simp
  | c :: r, q, p, l, hm, h => by
    have hmr : ∀ d ∈ r, mayC d = true := fun d hd => hm d (List.mem_cons_of_mem _ hd)
    have e39 : encB 39 ≠ [] := encB_ne (by decide)
    have ec : encB c ≠ [] := encB_ne (hm c List.mem_cons_self)
    have key : ∀ (k : Int) (u : List UInt8) (m : List Pc), u ≠ [] → (∀ x ∈ m, x.2 ≠ []) → ∀ x ∈ (k, u) :: m, x.2 ≠ [] := by
      intro k u m hu hm x hx
      rcases List.mem_cons.1 hx with rfl | hx
      · exact hu
      · exact hm x hx
    cases p <;> rw [tokS] at h
    · split at h
      · exact tokS_ne r q true l hmr h
      · split at h
        · obtain ⟨m, hm', rfl⟩ := Option.map_eq_some_iff.1 h
          exact key _ _ m ec (tokS_ne r true false m hmr hm')
        · split at h
          · cases h
          · obtain ⟨m, hm', rfl⟩ := Option.map_eq_some_iff.1 h
            exact key _ _ m ec (tokS_ne r false false m hmr hm')
    · split at h
      · obtain ⟨m, hm', rfl⟩ := Option.map_eq_some_iff.1 h
        exact key _ _ m e39 (tokS_ne r q false m hmr hm')
      · split at h
        · split at h
          · cases h
          · obtain ⟨m, hm', rfl⟩ := Option.map_eq_some_iff.1 h
            exact key _ _ m ec (tokS_ne r false false m hmr hm')
        · obtain ⟨m, hm', rfl⟩ := Option.map_eq_some_iff.1 h
          exact key _ _ m ec (tokS_ne r true false m hmr hm')
/-! ### the document's own texts -/
theorem core_ref (g : GG) : ∃ t, runN st0 (coreG g) = some t ∧ endN t = true ∧ longN t = false ∧ numsN t = numG g := by
  have h1 := List.all_eq_true.1 ref_all2 _ (List.mem_range.2 (nat_lt g.zeros 7 (by omega)))
  have h2 := List.all_eq_true.1 h1 _ (List.mem_range.2 (nat_lt g.prim 5 (by omega)))
  have h3 := List.all_eq_true.1 h2 _ (List.mem_range.2 (nat_lt g.sec 5 (by omega)))
  have h4 := List.all_eq_true.1 h3 _ (List.mem_range.2 (nat_lt g.minf 4 (by omega)))
  have h5 := List.all_eq_true.1 h4 _ (List.mem_range.2 (nat_lt g.more 4 (by omega)))
  have h6 : (match runN st0 (coreG g) with
  | some t => endN t && !longN t && (match numP (coreG g) with | some (n, _) => decide (numsN t = n) | none => false)
  | none => false) = true := h5
  cases hr : runN st0 (coreG g) with
  | none => rw [hr] at h6; cases h6
  | some t =>
    rw [hr, numG_of g] at h6
    simp only [Bool.and_eq_true, Bool.not_eq_true', decide_eq_true_eq] at h6
    exact ⟨t, rfl, h6.1.1, h6.1.2, h6.2⟩
def secL (g : GG) : List Pc := tokOf (signC g.npre) ++ numTok [48] ++ tokOf (signC g.nsuf)
def tokG (g : GG) : List Pc := if g.two then firstL g ++ (5, [59]) :: secL g else firstL g
theorem tok_text (g : GG) : tokL (textF g) = some (tokG g) := by
  cases h2 : g.two
  · have e : textF g = (firstC g).flatMap encB := by rw [first_enc]; unfold textF coreG; rw [h2]; simp
    unfold tokL tokF tokG
    rw [e, chars_of _ (first_may g), h2]
    have := first_tok g [] rfl
    rw [List.append_nil] at this
    rw [this]
    show some (firstL g ++ []) = _
    simp
  · have e : textF g = (firstC g ++ 59 :: (signC g.npre ++ ([48] ++ signC g.nsuf))).flatMap encB := by
      rw [List.flatMap_append, first_enc, List.flatMap_cons, List.flatMap_append, List.flatMap_append, ← sign_enc, ← sign_enc]
      unfold textF coreG; rw [h2]
      have e1 : encB 59 = [59] := by decide
      have e2 : ([48] : List Int).flatMap encB = [48] := by decide
      rw [e1, e2]; simp
    have hm : ∀ x ∈ firstC g ++ 59 :: (signC g.npre ++ ([48] ++ signC g.nsuf)), mayC x = true := by
      intro x hx
      simp only [List.mem_append, List.mem_cons, List.not_mem_nil, or_false] at hx
      rcases hx with hx | rfl | hx | rfl | hx
      · exact first_may g x hx
      · decide
      · exact sign_may _ x hx
      · decide
      · exact sign_may _ x hx
    unfold tokL tokF tokG
    rw [e, chars_of _ hm, first_tok g _ rfl, tokS, if_neg (by decide), h2]
    simp only [Bool.false_eq_true, if_false]
    rw [if_neg (by decide), tokS_app _ _ _ _ _ (tok_of (sign_gd g.npre)).1 rfl, tok_num_app [48] _ rfl, (tok_of (sign_gd g.nsuf)).1]
    show some (firstL g ++ (kindL 59, encB 59) :: (tokOf (signC g.npre) ++ (numTok [48] ++ tokOf (signC g.nsuf)))) = _
    have e4 : ((kindL 59, encB 59) : Pc) = (5, [59]) := by decide
    rw [e4]
    unfold secL; simp
theorem tok_may (xs : List Int) : ∀ x ∈ tokOf (signC xs), x.2 ≠ [] := tokS_ne _ _ _ _ (sign_may xs) (tok_of (sign_gd xs)).1
theorem num_may {xs : List Int} (h : ∀ c ∈ xs, mayC c = true) : ∀ x ∈ numTok xs, x.2 ≠ [] := by
  intro x hx
  obtain ⟨c, hc, rfl⟩ := List.mem_map.1 hx
  exact encB_ne (h c hc)
theorem tot_tok (xs : List Int) : tot (tokOf (signC xs)) ≤ 80 := by
  have h1 := tokS_tot _ _ _ _ (tok_of (sign_gd xs)).1
  have h2 := signC_len xs
  omega
theorem tot_text (l : List Pc) : tot l = (textOf l).length := by
  induction l with
  | nil => rfl
  | cons p l ih => simp only [tot, textOf, List.map_cons, List.sum_cons, List.flatMap_cons, List.length_append] at ih ⊢; omega
theorem core_len (g : GG) : (coreG g).length ≤ 100 := by
  have h := textF_len g
  have z : nat g.zeros 7 < 7 := nat_lt g.zeros 7 (by omega)
  have p : nat g.prim 5 < 5 := nat_lt g.prim 5 (by omega)
  have q : nat g.sec 5 < 5 := nat_lt g.sec 5 (by omega)
  have a : nat g.minf 4 < 4 := nat_lt g.minf 4 (by omega)
  have b : nat g.more 4 < 4 := nat_lt g.more 4 (by omega)
  have hn : numN' (nat g.zeros 7) (nat g.prim 5) (nat g.sec 5) ≤ 9 := by unfold numN'; omega
  have h5 := numT_len (nat g.zeros 7) (nat g.prim 5) (nat g.sec 5) (numN' (nat g.zeros 7) (nat g.prim 5) (nat g.sec 5)) (numN' (nat g.zeros 7) (nat g.prim 5) (nat g.sec 5))
  have h6 := fracT_len (nat g.minf 4) (nat g.more 4)
  unfold coreG coreT
  simp only [List.length_append]; omega
theorem first_half (g : GG) : ∃ t, numsN t = numG g ∧ HalfOk (firstL g) (tokOf (signC g.pre)).length ((tokOf (signC g.pre)).length + (numTok (toC (coreG g))).length) t := by
  obtain ⟨t, h1, h2, h3, h4⟩ := core_ref g
  have hT := (toC_enc _ (coreG_of g).1).2.2
  refine ⟨t, h4, half_parts _ _ _ t (tok_of (sign_gd g.pre)).2 (num_kind _) (num_ne g) (tok_of (sign_gd g.suf)).2 ?_ ?_ (by rw [hT]; exact h1) h2 h3⟩
  · have a := tot_tok g.pre
    have b := tot_tok g.suf
    have c := core_len g
    rw [tot_app, tot_app, tot_text (numTok _), hT]; omega
  · intro x hx
    rcases List.mem_append.1 hx with hx | hx
    · rcases List.mem_append.1 hx with hx | hx
      · exact tok_may _ x hx
      · exact num_may (toC_enc _ (coreG_of g).1).2.1 x hx
    · exact tok_may _ x hx
def stZ : NSt := ⟨false, 1, 0, 0, 1, 1, 0, 0⟩
theorem second_half (g : GG) : HalfOk (secL g) (tokOf (signC g.npre)).length ((tokOf (signC g.npre)).length + 1) stZ := by
  refine half_parts (tokOf (signC g.npre)) (numTok [48]) (tokOf (signC g.nsuf)) stZ (tok_of (sign_gd g.npre)).2 (num_kind _) (by simp [numTok]) (tok_of (sign_gd g.nsuf)).2 ?_ ?_ (by kernel_rfl) (by kernel_rfl) (by kernel_rfl)
  · have a := tot_tok g.npre
    have b := tot_tok g.nsuf
    have c : tot (numTok [48]) = 1 := by kernel_rfl
    rw [tot_app, tot_app, c]; omega
  · intro x hx
    rcases List.mem_append.1 hx with hx | hx
    · rcases List.mem_append.1 hx with hx | hx
      · exact tok_may _ x hx
      · exact num_may (by simp; decide) x hx
    · exact tok_may _ x hx
theorem first_no5 (g : GG) : ∀ k (h : k < (firstL g).length), ((firstL g)[k].1 == 5) = false := by
  intro k h
  have hx := List.getElem_mem h
  generalize (firstL g)[k] = x at hx
  unfold firstL at hx
  rcases List.mem_append.1 hx with hx | hx
  · rcases List.mem_append.1 hx with hx | hx
    · have := (tok_of (sign_gd g.pre)).2 x hx; simp; omega
    · obtain ⟨c, hc, rfl⟩ := List.mem_map.1 hx; rfl
  · have := (tok_of (sign_gd g.suf)).2 x hx; simp; omega
theorem second_no5 (g : GG) : ∀ k (h : k < (secL g).length), ((secL g)[k].1 == 5) = false := by
  intro k h
  have hx := List.getElem_mem h
  generalize (secL g)[k] = x at hx
  unfold secL at hx
  rcases List.mem_append.1 hx with hx | hx
  · rcases List.mem_append.1 hx with hx | hx
    · have := (tok_of (sign_gd g.npre)).2 x hx; simp; omega
    · obtain ⟨c, hc, rfl⟩ := List.mem_map.1 hx; rfl
  · have := (tok_of (sign_gd g.nsuf)).2 x hx; simp; omega
end Go.Proofs.YtdkjkbbibdppoaaGreatDoor.Pat
