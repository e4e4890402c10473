/- Walks: the name that is nearest to a tag. -/
import Derived.Test.YtdkjkbbibdppoaaGreatDoorForty5
import Derived.Test.YtdkjkbbibdppoaaGreatDoorJUtf
namespace Go.Proofs.YtdkjkbbibdppoaaGreatDoor.Forty
open Go.RowKit Go.Shelf Small Strs
set_option linter.unusedVariables false
set_option linter.unusedSimpArgs false

theorem cut_lang (l : List UInt8) : (cutL 45 l).1 = langL l := by
  unfold cutL
  split
  · rename_i h
    obtain ⟨h1, h2⟩ := Lib.indexByte_some (o := (Lib.indexByte l 45).toNat) (l := l) (c := 45) (by omega)
    obtain ⟨hl, he⟩ := List.getElem?_eq_some_iff.1 h1
    refine (langL_hit hl (fun x hx => ?_) he).symm
    obtain ⟨i, hi, rfl⟩ := List.mem_take_iff_getElem.1 hx
    intro e
    refine h2 i (by omega) ?_
    rw [List.getElem?_eq_getElem (by omega), e]
  · rename_i h
    refine (langL_none fun x hx e => ?_).symm
    have h1 := Lib.indexByte_none (l := l) (c := 45) (by have := Lib.indexByte_ge l 45; omega)
    obtain ⟨i, hi, rfl⟩ := List.mem_iff_getElem.1 hx
    exact h1 i (by rw [List.getElem?_eq_getElem hi, e])

theorem name_size (k : Nat) : (nameAt k).size ≤ 5 := by
  by_cases h : k < 40
  · have : ∀ k : Fin 40, (nameAt k.1).size ≤ 5 := by decide +kernel
    exact this ⟨k, h⟩
  · have : nameAt k = ⟨#[]⟩ := by
      unfold nameAt fldAt recAt
      have hl : recs.length = 40 := rfl
      have hz : recs.getD k [] = [] := by rw [List.getD_eq_getElem?_getD, List.getElem?_eq_none (by omega)]; rfl
      rw [hz]; rfl
    rw [this]; decide
/-- which of the forty has the language of a tag, -1: none -/
def sameL (s : ByteArray) (k : Nat) : Bool := decide (langL (nameAt k).data.toList = langL s.data.toList)
def langZ (s : ByteArray) : Int := idxF (sameL s) (List.range 40)
/-- the name that is nearest -/
def matchB (s : ByteArray) : ByteArray := if 0 ≤ findZ s then s else if 0 ≤ langZ s then nameAt (langZ s).toNat else ⟨#[]⟩
def matchE (s : ByteArray) : Int := if 0 ≤ findZ s then 0 else if 0 ≤ langZ s then 0 else 7
theorem sameL_beq (s : ByteArray) (k : Nat) : (langL (nameAt k).data.toList == langL s.data.toList) = sameL s k := by
  rw [Bool.eq_iff_iff]; simp [sameL]

end Go.Proofs.YtdkjkbbibdppoaaGreatDoor.Forty
