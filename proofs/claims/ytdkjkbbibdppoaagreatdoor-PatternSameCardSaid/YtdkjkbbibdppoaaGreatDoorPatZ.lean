/- Sizes of the document's own texts and of their patterns (the head of PHalv, for a seat without that law). -/
import Derived.Test.YtdkjkbbibdppoaaGreatDoorPatY
import Derived.Test.YtdkjkbbibdppoaaGreatDoorPatS
namespace Go.Proofs.YtdkjkbbibdppoaaGreatDoor.Pat
open Go.RowKit Utf All Small Strs Build EncC
set_option linter.unusedVariables false
set_option linter.unusedSimpArgs false

theorem parse_okl {l : List UInt8} {p : Pt} (hp : parseF l = .ok p) (w : World) (hs : l.length ≤ 100000000) :
    Calls Tryz.prog 11 #[.string ⟨l.toArray⟩] w fun e w' => ∃ A c B d C a D b, e = .returned (.tuple #[.agg (patC (.slice A p.pre.length c) (.slice B p.suf.length d) (.slice C p.npre.length a) (.slice D p.nsuf.length b) p.num).toArray, .int .i64 0]) ∧
      Row w' A (pcsV p.pre) ∧ Row w' B (pcsV p.suf) ∧ Row w' C (pcsV p.npre) ∧ Row w' D (pcsV p.nsuf) ∧ Okc A c ∧ Okc B d ∧ Okc C a ∧ Okc D b ∧ Ext w w' :=
  parse_ok (s := ⟨l.toArray⟩) hp w hs
theorem fracT_len (a b : Nat) : (fracT a b).length ≤ 1 + a + b := by
  unfold fracT
  split
  · simp only [List.length_cons, List.length_append, List.length_replicate]; omega
  · simp
theorem textF_len (g : GG) : (textF g).length ≤ 200 := by
  have h1 := signF_len g.pre
  have h2 := signF_len g.suf
  have h3 := signF_len g.npre
  have h4 := signF_len g.nsuf
  have z : nat g.zeros 7 < 7 := nat_lt g.zeros 7 (by omega)
  have p : nat g.prim 5 < 5 := nat_lt g.prim 5 (by omega)
  have q : nat g.sec 5 < 5 := nat_lt g.sec 5 (by omega)
  have a : nat g.minf 4 < 4 := nat_lt g.minf 4 (by omega)
  have b : nat g.more 4 < 4 := nat_lt g.more 4 (by omega)
  have hn : numN' (nat g.zeros 7) (nat g.prim 5) (nat g.sec 5) ≤ 9 := by unfold numN'; omega
  have h5 := numT_len (nat g.zeros 7) (nat g.prim 5) (nat g.sec 5) (numN' (nat g.zeros 7) (nat g.prim 5) (nat g.sec 5)) (numN' (nat g.zeros 7) (nat g.prim 5) (nat g.sec 5))
  have h6 := fracT_len (nat g.minf 4) (nat g.more 4)
  unfold textF coreT
  split <;> simp only [List.length_append, List.length_cons, List.length_nil] <;> omega
theorem tokS_len : ∀ (xs : List Int) (q p : Bool) (l : List Pc), tokS q p xs = some l → l.length ≤ xs.length
  | [], q, p, l, h => by cases q <;> cases p <;> simp [tokS] at h <;> subst h <;> simp
  | c :: r, q, p, l, h => by
    cases p <;> rw [tokS] at h
    · split at h
      · have := tokS_len r q true l h; simp only [List.length_cons]; omega
      · split at h
        · obtain ⟨m, hm, rfl⟩ := Option.map_eq_some_iff.1 h
          have := tokS_len r true false m hm; simp only [List.length_cons]; omega
        · split at h
          · cases h
          · obtain ⟨m, hm, rfl⟩ := Option.map_eq_some_iff.1 h
            have := tokS_len r false false m hm; simp only [List.length_cons]; omega
    · split at h
      · obtain ⟨m, hm, rfl⟩ := Option.map_eq_some_iff.1 h
        have := tokS_len r q false m hm; simp only [List.length_cons]; omega
      · split at h
        · split at h
          · cases h
          · obtain ⟨m, hm, rfl⟩ := Option.map_eq_some_iff.1 h
            have := tokS_len r false false m hm; simp only [List.length_cons]; omega
        · obtain ⟨m, hm, rfl⟩ := Option.map_eq_some_iff.1 h
          have := tokS_len r true false m hm; simp only [List.length_cons]; omega
theorem one_le (x : Int) : (oneC x).length ≤ 4 := by
  have h := aroundF_bd x 10 (by omega)
  have key : ∀ j : Fin 10, (tblC.getD j.val []).length ≤ 4 := by decide
  exact key ⟨(aroundF x 10).toNat, by omega⟩
theorem signC_len (xs : List Int) : (signC xs).length ≤ 20 := by
  have key : ∀ l : List Int, (l.flatMap oneC).length ≤ 4 * l.length := by
    intro l
    induction l with
    | nil => simp
    | cons x r ih => have := one_le x; rw [List.flatMap_cons, List.length_append, List.length_cons]; omega
  have h1 := key (xs.take 5)
  have h2 : (xs.take 5).length ≤ 5 := by simp; omega
  unfold signC; omega
theorem joinTok_len (xs : List Int) : (joinF (tokOf (signC xs))).length ≤ 20 := by
  have h1 := joinF_len (tokOf (signC xs))
  have h2 := tokS_len _ _ _ _ (tok_of (sign_gd xs)).1
  have h3 := signC_len xs
  omega
theorem ptOf_B (g : GG) : (ptOf g).pre.length ≤ 20 ∧ (ptOf g).suf.length ≤ 20 ∧ (ptOf g).npre.length ≤ 21 ∧ (ptOf g).nsuf.length ≤ 20 := by
  have h1 := joinTok_len g.pre
  have h2 := joinTok_len g.suf
  have h3 := joinTok_len g.npre
  have h4 := joinTok_len g.nsuf
  unfold ptOf
  split <;> simp <;> omega
theorem ptOf_PB (g : GG) : PtB (ptOf g) := by
  obtain ⟨h1, h2, h3, h4⟩ := ptOf_B g
  exact ⟨by omega, by omega, by omega, by omega⟩
end Go.Proofs.YtdkjkbbibdppoaaGreatDoor.Pat
