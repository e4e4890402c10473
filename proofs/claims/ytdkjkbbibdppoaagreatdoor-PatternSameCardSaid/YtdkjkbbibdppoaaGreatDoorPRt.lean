/- The document's own reading of its own texts. -/
import Derived.Test.YtdkjkbbibdppoaaGreatDoorPRp
namespace Go.Proofs.YtdkjkbbibdppoaaGreatDoor.Pat
open Go.RowKit Utf All Small Strs Build EncC
set_option linter.unusedVariables false
set_option linter.unusedSimpArgs false

theorem firstL_len (g : GG) : (firstL g).length ≤ 200 := by
  have h1 := tokS_len _ _ _ _ (tok_of (sign_gd g.pre)).1
  have h2 := tokS_len _ _ _ _ (tok_of (sign_gd g.suf)).1
  have h3 := signC_len g.pre
  have h4 := signC_len g.suf
  have h5 := core_len g
  have h6 : (numTok (toC (coreG g))).length = (coreG g).length := by simp [numTok, toC]
  unfold firstL
  simp only [List.length_append]; omega
theorem secL_len (g : GG) : (secL g).length ≤ 200 := by
  have h1 := tokS_len _ _ _ _ (tok_of (sign_gd g.npre)).1
  have h2 := tokS_len _ _ _ _ (tok_of (sign_gd g.nsuf)).1
  have h3 := signC_len g.npre
  have h4 := signC_len g.nsuf
  have h6 : (numTok [48]).length = 1 := rfl
  unfold secL
  simp only [List.length_append]; omega
theorem parse_ref_text (g : GG) (w : World) :
    Calls Tryz.prog 13 #[.string ⟨(textF g).toArray⟩] w fun e w' => ∃ A c B d C a D b, e = .returned (.tuple #[.agg (patC (.slice A (ptOf g).pre.length c) (.slice B (ptOf g).suf.length d) (.slice C (ptOf g).npre.length a) (.slice D (ptOf g).nsuf.length b) (ptOf g).num).toArray, .int .i64 0]) ∧ PtR w' A B C D (ptOf g) ∧ Ext w w' := by
  obtain ⟨t, hn, H1⟩ := first_half g
  have hlt := textF_len g
  have hl1 := firstL_len g
  have hl2 := secL_len g
  cases h2 : g.two
  · have ht : tokG g = firstL g := by unfold tokG; rw [h2]; rfl
    have e0 : (firstL g).take (firstL g).length = firstL g := List.take_length
    refine parse_ref (textF g) (firstL g) (firstL g).length _ _ 0 0 t st0 w (by omega) (by rw [tok_text, ht]) (by omega) (Nat.le_refl _) (fun k h _ => first_no5 g k h) (fun h => absurd h (Nat.lt_irrefl _)) (by rw [e0]; exact H1) (fun h => absurd h (Nat.lt_irrefl _)) (ptOf g) ?_
    rw [if_neg (Nat.lt_irrefl _), e0]
    unfold ptOf firstL
    rw [h2, take_P, drop_S, hn]; rfl
  · have ht : tokG g = firstL g ++ (5, [59]) :: secL g := by unfold tokG; rw [h2]; rfl
    have e1 : (firstL g ++ (5, [59]) :: secL g).take (firstL g).length = firstL g := List.take_left
    have e2 : (firstL g ++ (5, [59]) :: secL g).drop ((firstL g).length + 1) = secL g := by
      rw [show firstL g ++ (5, [59]) :: secL g = (firstL g ++ [(5, [59])]) ++ secL g by simp, show (firstL g).length + 1 = (firstL g ++ [((5 : Int), ([59] : List UInt8))]).length by simp, List.drop_left]
    have hn2 : (firstL g).length < (firstL g ++ (5, [59]) :: secL g).length := by simp
    refine parse_ref (textF g) (firstL g ++ (5, [59]) :: secL g) (firstL g).length _ _ _ _ t stZ w (by omega) (by rw [tok_text, ht]) (by simp; omega) (by omega) ?_ ?_ (by rw [e1]; exact H1) (fun h => by rw [e2]; exact second_half g) (ptOf g) ?_
    · intro k h hk
      by_cases hlt : k < (firstL g).length
      · rw [List.getElem_append_left hlt]; exact first_no5 g k hlt
      · have hk2 : k - (firstL g).length - 1 < (secL g).length := by simp at h; omega
        have e : (firstL g ++ (5, [59]) :: secL g)[k] = (secL g)[k - (firstL g).length - 1]'hk2 := by
          rw [List.getElem_append_right (by omega)]
          rw [List.getElem_cons]
          rw [dif_neg (by omega)]
        rw [e]; exact second_no5 g _ hk2
    · intro h
      rw [List.getElem_append_right (Nat.le_refl _)]
      simp
    · rw [if_pos hn2, e1, e2]
      unfold ptOf firstL secL
      rw [h2, take_P, drop_S, hn]
      have e3 := take_P (tokOf (signC g.npre)) (numTok [48]) (tokOf (signC g.nsuf))
      have e4 := drop_S (tokOf (signC g.npre)) (numTok [48]) (tokOf (signC g.nsuf))
      rw [e3]
      have e5 : (numTok [48]).length = 1 := rfl
      rw [e5] at e4
      rw [e4]; rfl
end Go.Proofs.YtdkjkbbibdppoaaGreatDoor.Pat
