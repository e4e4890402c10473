/- The document's own reading of patterns: a number's signs, one after the other. -/
import Derived.Test.YtdkjkbbibdppoaaGreatDoorPSm
namespace Go.Proofs.YtdkjkbbibdppoaaGreatDoor.Pat
open Go.RowKit Utf All Small Strs Build EncC
set_option linter.unusedVariables false
set_option linter.unusedSimpArgs false

/-- where the reading of a number stands: behind the point?; signs since the last comma, in the last whole group; commas, signs, noughts ahead of the point; noughts, signs behind it -/
structure NSt where
  point : Bool
  since : Nat
  group : Nat
  commas : Nat
  whole : Nat
  zeros : Nat
  minf : Nat
  maxf : Nat
deriving DecidableEq
def st0 : NSt := ⟨false, 0, 0, 0, 0, 0, 0, 0⟩
/-- one sign more; none: it cannot stand there -/
def stepN (s : NSt) (c : UInt8) : Option NSt :=
  if c = 46 then (if s.point = true ∨ s.whole = 0 ∨ (0 < s.commas ∧ s.since = 0) then none else some { s with point := true })
  else if s.point = true then (if c = 44 ∨ (c = 48 ∧ s.minf < s.maxf) then none else some { s with maxf := s.maxf + 1, minf := if c = 48 then s.minf + 1 else s.minf })
  else if c = 44 then (if s.since = 0 then none else some { s with group := s.since, since := 0, commas := s.commas + 1 })
  else if c = 35 ∧ 0 < s.zeros then none
  else some { s with zeros := if c = 48 then s.zeros + 1 else s.zeros, whole := s.whole + 1, since := s.since + 1 }
def runN : NSt → List UInt8 → Option NSt
  | s, [] => some s
  | s, c :: r => match stepN s c with | some t => runN t r | none => none
def endN (s : NSt) : Bool := decide (s.whole ≠ 0) && decide (s.since ≠ 0) && (!s.point || decide (s.maxf ≠ 0))
def numsN (s : NSt) : Nums := ⟨if 0 < s.commas then s.since else 0, if 1 < s.commas then s.group else if 0 < s.commas then s.since else 0, s.zeros, s.minf, s.maxf⟩
def longN (s : NSt) : Bool := decide (64 < s.whole) || decide (64 < s.maxf)
/-- what is told of a core -/
def coreRef (z p q a b : Nat) : Bool := match runN st0 (coreT z p q a b) with
  | some t => endN t && !longN t && (match numP (coreT z p q a b) with | some (n, _) => decide (numsN t = n) | none => false)
  | none => false
theorem ref_all2 : (List.range 7).all (fun z => (List.range 5).all fun p => (List.range 5).all fun q => (List.range 4).all fun a => (List.range 4).all fun b => coreRef z p q a b) = true := by decide +kernel
end Go.Proofs.YtdkjkbbibdppoaaGreatDoor.Pat
