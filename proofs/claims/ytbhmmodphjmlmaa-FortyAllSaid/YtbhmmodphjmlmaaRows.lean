/-
  No cell of these rows narrows 'for every input' (looked for: loops, veiled, ifaces, maps, wideKeys, modest, calm, conditions, laid).
  DERIVED. THE GIVEN ROWS OF THIS SEAT. 10 by the template 'for every input the law returns true; each argument reads behind the call as it read before'; 0 by the template 'total and deterministic' (their statements: YtbhmmodphjmlmaaTotals.lean).
  GIVEN WITH THE SEED: the statements are not yours to turn. If you find one false, say at which input.
  Laid BY PROGRAM, IN A SANDBOX (cutbox-rows.mjs): the forced cells as the released guide's own fill.sh prints them over the translation 1f9ba80d923e2f61… (all of the seat's roots in one cut). By AI agents, Wed Nov 11 2026. No macro, syntax, notation, axiom, sorry.
-/
import Derived.Test.YtbhmmodphjmlmaaChecked
import GoSem.Claim
import GoSem.ClaimJoined
import GoSem.ClaimMapViews
import Derived.JoinedTies
import Derived.KernelRfl
namespace Go.Proofs.Ytbhmmodphjmlmaa
/- THE CELL 'sum', in the pinned program and in every row, IS THE sha256 OF THE DUMP (.gsa) THAT YtbhmmodphjmlmaaProg.lean LOADS. Nothing in Lean hashes anything: it is a label: what it is worth is what the hold of that sum in a sandbox is worth. -/
noncomputable def Try.pinned : Pinned := { name := "ytbhmmodphjmlmaa", sum := "1f9ba80d923e2f61fc1254902d0445c57cb7d977c002cc36f13da6eafdf03b80", checked := Try.checked }
namespace Rows
def none {H : Type} : Left H := { results := [], args := [] }

/-- 'abacistlaw15.ItemEnds': WHATEVER THE INPUT: true; the input reads as it did. -/
def itemEndsSpec : ChangeSpec := { name := "itemEnds", fn := fun _ => fun
  | [d1, d2, d3] => { results := [.lit (.bool true)], args := [d1, d2, d3] }
  | _ => none }
def itemEndsRow : OpenClaim := { program := "ytbhmmodphjmlmaa", sum := "1f9ba80d923e2f61fc1254902d0445c57cb7d977c002cc36f13da6eafdf03b80", func := "abacist/abacistlaw15.ItemEnds", spec := "itemEnds", apart := false }
def ItemEndsSaid : Prop := itemEndsRow.holds Try.pinned (OpenSpec.ofChange itemEndsSpec)

/-- ITS FALSE NEIGHBOUR: 'it returns false'. Refute it at one input. -/
def itemEndsWrong : ChangeSpec := { name := "itemEnds", fn := fun _ => fun
  | [d1, d2, d3] => { results := [.lit (.bool false)], args := [d1, d2, d3] }
  | _ => none }
def ItemEndsWrongFalsely : Prop := itemEndsRow.holds Try.pinned (OpenSpec.ofChange itemEndsWrong)

/-- 'abacistlaw09.SystemOf': WHATEVER THE INPUT: true; the input reads as it did. -/
def systemOfSpec : ChangeSpec := { name := "systemOf", fn := fun _ => fun
  | [d1, d2] => { results := [.lit (.bool true)], args := [d1, d2] }
  | _ => none }
def systemOfRow : OpenClaim := { program := "ytbhmmodphjmlmaa", sum := "1f9ba80d923e2f61fc1254902d0445c57cb7d977c002cc36f13da6eafdf03b80", func := "abacist/abacistlaw09.SystemOf", spec := "systemOf", inPlace := ["internal/abi.NoEscape"], unfollowed := true, recurses := true, apart := false }
def SystemOfSaid : Prop := systemOfRow.holds Try.pinned (OpenSpec.ofChange systemOfSpec)

/-- ITS FALSE NEIGHBOUR: 'it returns false'. Refute it at one input. -/
def systemOfWrong : ChangeSpec := { name := "systemOf", fn := fun _ => fun
  | [d1, d2] => { results := [.lit (.bool false)], args := [d1, d2] }
  | _ => none }
def SystemOfWrongFalsely : Prop := systemOfRow.holds Try.pinned (OpenSpec.ofChange systemOfWrong)

/-- 'abacistlaw09.SystemDigits': WHATEVER THE INPUT: true; the input reads as it did. -/
def systemDigitsSpec : ChangeSpec := { name := "systemDigits", fn := fun _ => fun
  | [d1, d2, d3, d4] => { results := [.lit (.bool true)], args := [d1, d2, d3, d4] }
  | _ => none }
def systemDigitsRow : OpenClaim := { program := "ytbhmmodphjmlmaa", sum := "1f9ba80d923e2f61fc1254902d0445c57cb7d977c002cc36f13da6eafdf03b80", func := "abacist/abacistlaw09.SystemDigits", spec := "systemDigits", inPlace := ["internal/abi.NoEscape"], unfollowed := true, recurses := true, apart := false }
def SystemDigitsSaid : Prop := systemDigitsRow.holds Try.pinned (OpenSpec.ofChange systemDigitsSpec)

/-- ITS FALSE NEIGHBOUR: 'it returns false'. Refute it at one input. -/
def systemDigitsWrong : ChangeSpec := { name := "systemDigits", fn := fun _ => fun
  | [d1, d2, d3, d4] => { results := [.lit (.bool false)], args := [d1, d2, d3, d4] }
  | _ => none }
def SystemDigitsWrongFalsely : Prop := systemDigitsRow.holds Try.pinned (OpenSpec.ofChange systemDigitsWrong)

/-- 'abacistlaw09.SystemShapes': WHATEVER THE INPUT: true; the input reads as it did. -/
def systemShapesSpec : ChangeSpec := { name := "systemShapes", fn := fun _ => fun
  | [d1, d2, d3] => { results := [.lit (.bool true)], args := [d1, d2, d3] }
  | _ => none }
def systemShapesRow : OpenClaim := { program := "ytbhmmodphjmlmaa", sum := "1f9ba80d923e2f61fc1254902d0445c57cb7d977c002cc36f13da6eafdf03b80", func := "abacist/abacistlaw09.SystemShapes", spec := "systemShapes", inPlace := ["internal/abi.NoEscape"], unfollowed := true, recurses := true, apart := false }
def SystemShapesSaid : Prop := systemShapesRow.holds Try.pinned (OpenSpec.ofChange systemShapesSpec)

/-- ITS FALSE NEIGHBOUR: 'it returns false'. Refute it at one input. -/
def systemShapesWrong : ChangeSpec := { name := "systemShapes", fn := fun _ => fun
  | [d1, d2, d3] => { results := [.lit (.bool false)], args := [d1, d2, d3] }
  | _ => none }
def SystemShapesWrongFalsely : Prop := systemShapesRow.holds Try.pinned (OpenSpec.ofChange systemShapesWrong)

/-- 'abacistlaw09.SystemReads': WHATEVER THE INPUT: true; the input reads as it did. -/
def systemReadsSpec : ChangeSpec := { name := "systemReads", fn := fun _ => fun
  | [d1, d2, d3, d4, d5, d6] => { results := [.lit (.bool true)], args := [d1, d2, d3, d4, d5, d6] }
  | _ => none }
def systemReadsRow : OpenClaim := { program := "ytbhmmodphjmlmaa", sum := "1f9ba80d923e2f61fc1254902d0445c57cb7d977c002cc36f13da6eafdf03b80", func := "abacist/abacistlaw09.SystemReads", spec := "systemReads", inPlace := ["internal/abi.NoEscape"], unfollowed := true, recurses := true, apart := false }
def SystemReadsSaid : Prop := systemReadsRow.holds Try.pinned (OpenSpec.ofChange systemReadsSpec)

/-- ITS FALSE NEIGHBOUR: 'it returns false'. Refute it at one input. -/
def systemReadsWrong : ChangeSpec := { name := "systemReads", fn := fun _ => fun
  | [d1, d2, d3, d4, d5, d6] => { results := [.lit (.bool false)], args := [d1, d2, d3, d4, d5, d6] }
  | _ => none }
def SystemReadsWrongFalsely : Prop := systemReadsRow.holds Try.pinned (OpenSpec.ofChange systemReadsWrong)

/-- 'abacistlaw09.SystemConverts': WHATEVER THE INPUT: true; the input reads as it did. -/
def systemConvertsSpec : ChangeSpec := { name := "systemConverts", fn := fun _ => fun
  | [d1, d2, d3, d4, d5] => { results := [.lit (.bool true)], args := [d1, d2, d3, d4, d5] }
  | _ => none }
def systemConvertsRow : OpenClaim := { program := "ytbhmmodphjmlmaa", sum := "1f9ba80d923e2f61fc1254902d0445c57cb7d977c002cc36f13da6eafdf03b80", func := "abacist/abacistlaw09.SystemConverts", spec := "systemConverts", inPlace := ["internal/abi.NoEscape"], unfollowed := true, recurses := true, apart := false }
def SystemConvertsSaid : Prop := systemConvertsRow.holds Try.pinned (OpenSpec.ofChange systemConvertsSpec)

/-- ITS FALSE NEIGHBOUR: 'it returns false'. Refute it at one input. -/
def systemConvertsWrong : ChangeSpec := { name := "systemConverts", fn := fun _ => fun
  | [d1, d2, d3, d4, d5] => { results := [.lit (.bool false)], args := [d1, d2, d3, d4, d5] }
  | _ => none }
def SystemConvertsWrongFalsely : Prop := systemConvertsRow.holds Try.pinned (OpenSpec.ofChange systemConvertsWrong)

/-- 'abacistlaw12.FortyMatches': WHATEVER THE INPUT: true; the input reads as it did. -/
def fortyMatchesSpec : ChangeSpec := { name := "fortyMatches", fn := fun _ => fun
  | [d1, d2, d3] => { results := [.lit (.bool true)], args := [d1, d2, d3] }
  | _ => none }
def fortyMatchesRow : OpenClaim := { program := "ytbhmmodphjmlmaa", sum := "1f9ba80d923e2f61fc1254902d0445c57cb7d977c002cc36f13da6eafdf03b80", func := "abacist/abacistlaw12.FortyMatches", spec := "fortyMatches", inPlace := ["internal/bytealg.IndexByteString", "internal/bytealg.IndexString"], unfollowed := true, recurses := true, named := ["internal/bytealg.MaxLen"], apart := false }
def FortyMatchesSaid : Prop := fortyMatchesRow.holds Try.pinned (OpenSpec.ofChange fortyMatchesSpec)

/-- ITS FALSE NEIGHBOUR: 'it returns false'. Refute it at one input. -/
def fortyMatchesWrong : ChangeSpec := { name := "fortyMatches", fn := fun _ => fun
  | [d1, d2, d3] => { results := [.lit (.bool false)], args := [d1, d2, d3] }
  | _ => none }
def FortyMatchesWrongFalsely : Prop := fortyMatchesRow.holds Try.pinned (OpenSpec.ofChange fortyMatchesWrong)

/-- 'abacistlaw12.FortyAll': WHATEVER THE INPUT: true; the input reads as it did. -/
def fortyAllSpec : ChangeSpec := { name := "fortyAll", fn := fun _ => fun
  | [d] => { results := [.lit (.bool true)], args := [d] }
  | _ => none }
def fortyAllRow : OpenClaim := { program := "ytbhmmodphjmlmaa", sum := "1f9ba80d923e2f61fc1254902d0445c57cb7d977c002cc36f13da6eafdf03b80", func := "abacist/abacistlaw12.FortyAll", spec := "fortyAll", inPlace := ["internal/bytealg.IndexByteString", "internal/bytealg.IndexString"], unfollowed := true, recurses := true, named := ["internal/bytealg.MaxLen"], apart := false }
def FortyAllSaid : Prop := fortyAllRow.holds Try.pinned (OpenSpec.ofChange fortyAllSpec)

/-- ITS FALSE NEIGHBOUR: 'it returns false'. Refute it at one input. -/
def fortyAllWrong : ChangeSpec := { name := "fortyAll", fn := fun _ => fun
  | [d] => { results := [.lit (.bool false)], args := [d] }
  | _ => none }
def FortyAllWrongFalsely : Prop := fortyAllRow.holds Try.pinned (OpenSpec.ofChange fortyAllWrong)

/-- 'abacistlaw12.FortyRecords': WHATEVER THE INPUT: true; the input reads as it did. -/
def fortyRecordsSpec : ChangeSpec := { name := "fortyRecords", fn := fun _ => fun
  | [d1, d2] => { results := [.lit (.bool true)], args := [d1, d2] }
  | _ => none }
def fortyRecordsRow : OpenClaim := { program := "ytbhmmodphjmlmaa", sum := "1f9ba80d923e2f61fc1254902d0445c57cb7d977c002cc36f13da6eafdf03b80", func := "abacist/abacistlaw12.FortyRecords", spec := "fortyRecords", inPlace := ["internal/bytealg.IndexByteString", "internal/bytealg.IndexString"], unfollowed := true, recurses := true, named := ["internal/bytealg.MaxLen"], apart := false }
def FortyRecordsSaid : Prop := fortyRecordsRow.holds Try.pinned (OpenSpec.ofChange fortyRecordsSpec)

/-- ITS FALSE NEIGHBOUR: 'it returns false'. Refute it at one input. -/
def fortyRecordsWrong : ChangeSpec := { name := "fortyRecords", fn := fun _ => fun
  | [d1, d2] => { results := [.lit (.bool false)], args := [d1, d2] }
  | _ => none }
def FortyRecordsWrongFalsely : Prop := fortyRecordsRow.holds Try.pinned (OpenSpec.ofChange fortyRecordsWrong)

/-- 'abacistlaw09.SystemNames': WHATEVER THE INPUT: true; the input reads as it did. -/
def systemNamesSpec : ChangeSpec := { name := "systemNames", fn := fun _ => fun
  | [d1, d2] => { results := [.lit (.bool true)], args := [d1, d2] }
  | _ => none }
def systemNamesRow : OpenClaim := { program := "ytbhmmodphjmlmaa", sum := "1f9ba80d923e2f61fc1254902d0445c57cb7d977c002cc36f13da6eafdf03b80", func := "abacist/abacistlaw09.SystemNames", spec := "systemNames", inPlace := ["internal/abi.NoEscape"], unfollowed := true, recurses := true, apart := false }
def SystemNamesSaid : Prop := systemNamesRow.holds Try.pinned (OpenSpec.ofChange systemNamesSpec)

/-- ITS FALSE NEIGHBOUR: 'it returns false'. Refute it at one input. -/
def systemNamesWrong : ChangeSpec := { name := "systemNames", fn := fun _ => fun
  | [d1, d2] => { results := [.lit (.bool false)], args := [d1, d2] }
  | _ => none }
def SystemNamesWrongFalsely : Prop := systemNamesRow.holds Try.pinned (OpenSpec.ofChange systemNamesWrong)

/- THE SECOND FORM. 'bulk': how many values and letters a reading holds, each counted each time it is reached (what is shared counts as often as it is met; a slice's spare places count too). A statement '..UptoSaid' is the law's where the arguments, and the package variables that the reading takes, are together of bulk at most 1048576: NARROWER than '..Said'. Prove '..Said' where nothing that the law and all that it calls make is longer than what came in: it says more and counts as full. Else prove '..UptoSaid'. A law counts once. -/
mutual
def uptoBulk {H : Type} : DataW H → Nat
  | .lit (.string bytes) => bytes.length + 1
  | .lit _ => 1
  | .nil => 1
  | .ptr d => uptoBulk d + 1
  | .slice elems spare => uptoBulkAll elems + uptoBulkAll spare + 1
  | .agg parts => uptoBulkAll parts + 1
  | .iface _ d => uptoBulk d + 1
  | .map entries => uptoBulkEntries entries + 1
  | .held _ => 1
def uptoBulkAll {H : Type} : List (DataW H) → Nat
  | [] => 0
  | d :: r => uptoBulk d + uptoBulkAll r
def uptoBulkEntries {H : Type} : List (Lit × DataW H) → Nat
  | [] => 0
  | x :: r => uptoBulkEntry x + uptoBulkEntries r
def uptoBulkEntry {H : Type} : Lit × DataW H → Nat
  | (.string bytes, d) => bytes.length + uptoBulk d + 1
  | (_, d) => uptoBulk d + 1
 end
def uptoSmall : (H : Type) → List (DataW H) → Bool := fun _ ds => decide (uptoBulkAll ds ≤ 1048576)
def OpenSpec.upto (s : _root_.Go.ChangeSpec) : _root_.Go.OpenSpec := { _root_.Go.OpenSpec.ofChange s with cond := some uptoSmall }

/-- 'abacistlaw15.ItemEnds', WHERE WHAT IT READS IS OF BULK AT MOST 1048576: true; the input reads as it did. -/
def itemEndsUptoRow : OpenClaim := { program := "ytbhmmodphjmlmaa", sum := "1f9ba80d923e2f61fc1254902d0445c57cb7d977c002cc36f13da6eafdf03b80", func := "abacist/abacistlaw15.ItemEnds", spec := "itemEnds", apart := false, narrowed := true }
def ItemEndsUptoSaid : Prop := itemEndsUptoRow.holds Try.pinned (OpenSpec.upto itemEndsSpec)

/-- 'abacistlaw09.SystemOf', WHERE WHAT IT READS IS OF BULK AT MOST 1048576: true; the input reads as it did. -/
def systemOfUptoRow : OpenClaim := { program := "ytbhmmodphjmlmaa", sum := "1f9ba80d923e2f61fc1254902d0445c57cb7d977c002cc36f13da6eafdf03b80", func := "abacist/abacistlaw09.SystemOf", spec := "systemOf", inPlace := ["internal/abi.NoEscape"], unfollowed := true, recurses := true, apart := false, narrowed := true }
def SystemOfUptoSaid : Prop := systemOfUptoRow.holds Try.pinned (OpenSpec.upto systemOfSpec)

/-- 'abacistlaw09.SystemDigits', WHERE WHAT IT READS IS OF BULK AT MOST 1048576: true; the input reads as it did. -/
def systemDigitsUptoRow : OpenClaim := { program := "ytbhmmodphjmlmaa", sum := "1f9ba80d923e2f61fc1254902d0445c57cb7d977c002cc36f13da6eafdf03b80", func := "abacist/abacistlaw09.SystemDigits", spec := "systemDigits", inPlace := ["internal/abi.NoEscape"], unfollowed := true, recurses := true, apart := false, narrowed := true }
def SystemDigitsUptoSaid : Prop := systemDigitsUptoRow.holds Try.pinned (OpenSpec.upto systemDigitsSpec)

/-- 'abacistlaw09.SystemShapes', WHERE WHAT IT READS IS OF BULK AT MOST 1048576: true; the input reads as it did. -/
def systemShapesUptoRow : OpenClaim := { program := "ytbhmmodphjmlmaa", sum := "1f9ba80d923e2f61fc1254902d0445c57cb7d977c002cc36f13da6eafdf03b80", func := "abacist/abacistlaw09.SystemShapes", spec := "systemShapes", inPlace := ["internal/abi.NoEscape"], unfollowed := true, recurses := true, apart := false, narrowed := true }
def SystemShapesUptoSaid : Prop := systemShapesUptoRow.holds Try.pinned (OpenSpec.upto systemShapesSpec)

/-- 'abacistlaw09.SystemReads', WHERE WHAT IT READS IS OF BULK AT MOST 1048576: true; the input reads as it did. -/
def systemReadsUptoRow : OpenClaim := { program := "ytbhmmodphjmlmaa", sum := "1f9ba80d923e2f61fc1254902d0445c57cb7d977c002cc36f13da6eafdf03b80", func := "abacist/abacistlaw09.SystemReads", spec := "systemReads", inPlace := ["internal/abi.NoEscape"], unfollowed := true, recurses := true, apart := false, narrowed := true }
def SystemReadsUptoSaid : Prop := systemReadsUptoRow.holds Try.pinned (OpenSpec.upto systemReadsSpec)

/-- 'abacistlaw09.SystemConverts', WHERE WHAT IT READS IS OF BULK AT MOST 1048576: true; the input reads as it did. -/
def systemConvertsUptoRow : OpenClaim := { program := "ytbhmmodphjmlmaa", sum := "1f9ba80d923e2f61fc1254902d0445c57cb7d977c002cc36f13da6eafdf03b80", func := "abacist/abacistlaw09.SystemConverts", spec := "systemConverts", inPlace := ["internal/abi.NoEscape"], unfollowed := true, recurses := true, apart := false, narrowed := true }
def SystemConvertsUptoSaid : Prop := systemConvertsUptoRow.holds Try.pinned (OpenSpec.upto systemConvertsSpec)

/-- 'abacistlaw12.FortyMatches', WHERE WHAT IT READS IS OF BULK AT MOST 1048576: true; the input reads as it did. -/
def fortyMatchesUptoRow : OpenClaim := { program := "ytbhmmodphjmlmaa", sum := "1f9ba80d923e2f61fc1254902d0445c57cb7d977c002cc36f13da6eafdf03b80", func := "abacist/abacistlaw12.FortyMatches", spec := "fortyMatches", inPlace := ["internal/bytealg.IndexByteString", "internal/bytealg.IndexString"], unfollowed := true, recurses := true, named := ["internal/bytealg.MaxLen"], apart := false, narrowed := true }
def FortyMatchesUptoSaid : Prop := fortyMatchesUptoRow.holds Try.pinned (OpenSpec.upto fortyMatchesSpec)

/-- 'abacistlaw12.FortyAll', WHERE WHAT IT READS IS OF BULK AT MOST 1048576: true; the input reads as it did. -/
def fortyAllUptoRow : OpenClaim := { program := "ytbhmmodphjmlmaa", sum := "1f9ba80d923e2f61fc1254902d0445c57cb7d977c002cc36f13da6eafdf03b80", func := "abacist/abacistlaw12.FortyAll", spec := "fortyAll", inPlace := ["internal/bytealg.IndexByteString", "internal/bytealg.IndexString"], unfollowed := true, recurses := true, named := ["internal/bytealg.MaxLen"], apart := false, narrowed := true }
def FortyAllUptoSaid : Prop := fortyAllUptoRow.holds Try.pinned (OpenSpec.upto fortyAllSpec)

/-- 'abacistlaw12.FortyRecords', WHERE WHAT IT READS IS OF BULK AT MOST 1048576: true; the input reads as it did. -/
def fortyRecordsUptoRow : OpenClaim := { program := "ytbhmmodphjmlmaa", sum := "1f9ba80d923e2f61fc1254902d0445c57cb7d977c002cc36f13da6eafdf03b80", func := "abacist/abacistlaw12.FortyRecords", spec := "fortyRecords", inPlace := ["internal/bytealg.IndexByteString", "internal/bytealg.IndexString"], unfollowed := true, recurses := true, named := ["internal/bytealg.MaxLen"], apart := false, narrowed := true }
def FortyRecordsUptoSaid : Prop := fortyRecordsUptoRow.holds Try.pinned (OpenSpec.upto fortyRecordsSpec)

/-- 'abacistlaw09.SystemNames', WHERE WHAT IT READS IS OF BULK AT MOST 1048576: true; the input reads as it did. -/
def systemNamesUptoRow : OpenClaim := { program := "ytbhmmodphjmlmaa", sum := "1f9ba80d923e2f61fc1254902d0445c57cb7d977c002cc36f13da6eafdf03b80", func := "abacist/abacistlaw09.SystemNames", spec := "systemNames", inPlace := ["internal/abi.NoEscape"], unfollowed := true, recurses := true, apart := false, narrowed := true }
def SystemNamesUptoSaid : Prop := systemNamesUptoRow.holds Try.pinned (OpenSpec.upto systemNamesSpec)

end Rows
end Go.Proofs.Ytbhmmodphjmlmaa
