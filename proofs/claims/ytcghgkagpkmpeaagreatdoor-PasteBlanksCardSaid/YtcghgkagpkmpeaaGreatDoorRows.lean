/-
  NARROWER THAN 'FOR EVERY INPUT', by the rows' own cells (each row's printed sentence says how): PasteKinds: laid · PasteBlanks: laid · StrictReads: laid · StrictItems: laid.
  DERIVED. THE GIVEN ROWS OF THIS SEAT. 4 by the template 'for every input the law returns true; each argument reads behind the call as it read before'; 0 by the template 'total and deterministic' (their statements: YtcghgkagpkmpeaaGreatDoorTotals.lean).
  GIVEN WITH THE SEED: the statements are not yours to turn. If you find one false, say at which input.
  Laid BY PROGRAM, IN A SANDBOX (cutbox-rows.mjs): the forced cells as the released guide's own fill.sh prints them over the translation a511a4ac8bac6b0a… (all of the seat's roots in one cut). By AI agents, Wed Nov 11 2026. No macro, syntax, notation, axiom, sorry.
-/
import Derived.Test.YtcghgkagpkmpeaaGreatDoorChecked
import GoSem.PinnedTables
import GoSem.Claim
import GoSem.ClaimJoined
import GoSem.ClaimMapViews
import Derived.JoinedTies
import Derived.KernelRfl
namespace Go.Proofs.YtcghgkagpkmpeaaGreatDoor
/- THE CELL 'sum', in the pinned program and in every row, IS THE sha256 OF THE DUMP (.gsa) THAT YtcghgkagpkmpeaaGreatDoorProg.lean LOADS. Nothing in Lean hashes anything: it is a label: what it is worth is what the hold of that sum in a sandbox is worth. -/
noncomputable def Tryz.pinned : Pinned := { name := "ytcghgkagpkmpeaagreatdoor", sum := "a511a4ac8bac6b0add551e623022aa8f9ed66790205ff0fef542781e21487919", checked := Tryz.checked }
namespace Rows
def none {H : Type} : Left H := { results := [], args := [] }

/- WHAT THE LISTED PACKAGE-LEVEL VARIABLES READ AS WHEN THE CALL BEGINS. Each datum BY PROGRAM (the guide's laid-datum.mjs) off the statement by which the dump's own 'gosem.cut.vars' lays the variable. In a bare row this is a premise. The card (YtcghgkagpkmpeaaGreatDoorCards.lean) ties it to the program's text. -/
def laid_unicode_utf8_acceptRanges {H : Type} : DataW H := .agg [.agg [.lit (.int .u8 128), .lit (.int .u8 191)], .agg [.lit (.int .u8 160), .lit (.int .u8 191)], .agg [.lit (.int .u8 128), .lit (.int .u8 159)], .agg [.lit (.int .u8 144), .lit (.int .u8 191)], .agg [.lit (.int .u8 128), .lit (.int .u8 143)], .agg [.lit (.int .u8 0), .lit (.int .u8 0)], .agg [.lit (.int .u8 0), .lit (.int .u8 0)], .agg [.lit (.int .u8 0), .lit (.int .u8 0)], .agg [.lit (.int .u8 0), .lit (.int .u8 0)], .agg [.lit (.int .u8 0), .lit (.int .u8 0)], .agg [.lit (.int .u8 0), .lit (.int .u8 0)], .agg [.lit (.int .u8 0), .lit (.int .u8 0)], .agg [.lit (.int .u8 0), .lit (.int .u8 0)], .agg [.lit (.int .u8 0), .lit (.int .u8 0)], .agg [.lit (.int .u8 0), .lit (.int .u8 0)], .agg [.lit (.int .u8 0), .lit (.int .u8 0)]]
/-- One of Go's own tables, pinned by name: the form's constant. -/
def laid_unicode_utf8_first : DataW Unit := Go.Pinned.utf8First

/-- 'abacistlaw18.PasteKinds': WHATEVER THE INPUT: true; the input reads as it did. -/
def pasteKindsSpec : ChangeSpec := { name := "pasteKinds", fn := fun _ => fun
  | [d1, d2, d3] => { results := [.lit (.bool true)], args := [d1, d2, d3] }
  | _ => none }
def pasteKindsRow : OpenClaim := { program := "ytcghgkagpkmpeaagreatdoor", sum := "a511a4ac8bac6b0add551e623022aa8f9ed66790205ff0fef542781e21487919", func := "abacist/abacistlaw18.PasteKinds", spec := "pasteKinds", inPlace := ["internal/bytealg.IndexByteString", "internal/bytealg.IndexString", "internal/bytealg.CountString", "internal/abi.NoEscape", "internal/bytealg.MakeNoZero"], unfollowed := true, recurses := true, named := ["internal/bytealg.MaxLen", "unicode/utf8.first", "unicode/utf8.acceptRanges"], apart := false, laid := [("unicode/utf8.acceptRanges", laid_unicode_utf8_acceptRanges), ("unicode/utf8.first", laid_unicode_utf8_first)] }
def PasteKindsSaid : Prop := pasteKindsRow.holds Tryz.pinned (OpenSpec.ofChange pasteKindsSpec)

/-- ITS FALSE NEIGHBOUR: 'it returns false'. Refute it at one input. -/
def pasteKindsWrong : ChangeSpec := { name := "pasteKinds", fn := fun _ => fun
  | [d1, d2, d3] => { results := [.lit (.bool false)], args := [d1, d2, d3] }
  | _ => none }
def PasteKindsWrongFalsely : Prop := pasteKindsRow.holds Tryz.pinned (OpenSpec.ofChange pasteKindsWrong)

/-- 'abacistlaw18.PasteBlanks': WHATEVER THE INPUT: true; the input reads as it did. -/
def pasteBlanksSpec : ChangeSpec := { name := "pasteBlanks", fn := fun _ => fun
  | [d1, d2, d3, d4, d5] => { results := [.lit (.bool true)], args := [d1, d2, d3, d4, d5] }
  | _ => none }
def pasteBlanksRow : OpenClaim := { program := "ytcghgkagpkmpeaagreatdoor", sum := "a511a4ac8bac6b0add551e623022aa8f9ed66790205ff0fef542781e21487919", func := "abacist/abacistlaw18.PasteBlanks", spec := "pasteBlanks", inPlace := ["internal/bytealg.IndexByteString", "internal/bytealg.IndexString", "internal/bytealg.CountString", "internal/abi.NoEscape", "internal/bytealg.MakeNoZero"], unfollowed := true, recurses := true, named := ["internal/bytealg.MaxLen", "unicode/utf8.first", "unicode/utf8.acceptRanges"], apart := false, laid := [("unicode/utf8.acceptRanges", laid_unicode_utf8_acceptRanges), ("unicode/utf8.first", laid_unicode_utf8_first)] }
def PasteBlanksSaid : Prop := pasteBlanksRow.holds Tryz.pinned (OpenSpec.ofChange pasteBlanksSpec)

/-- ITS FALSE NEIGHBOUR: 'it returns false'. Refute it at one input. -/
def pasteBlanksWrong : ChangeSpec := { name := "pasteBlanks", fn := fun _ => fun
  | [d1, d2, d3, d4, d5] => { results := [.lit (.bool false)], args := [d1, d2, d3, d4, d5] }
  | _ => none }
def PasteBlanksWrongFalsely : Prop := pasteBlanksRow.holds Tryz.pinned (OpenSpec.ofChange pasteBlanksWrong)

/-- 'abacistlaw17.StrictReads': WHATEVER THE INPUT: true; the input reads as it did. -/
def strictReadsSpec : ChangeSpec := { name := "strictReads", fn := fun _ => fun
  | [d1, d2, d3] => { results := [.lit (.bool true)], args := [d1, d2, d3] }
  | _ => none }
def strictReadsRow : OpenClaim := { program := "ytcghgkagpkmpeaagreatdoor", sum := "a511a4ac8bac6b0add551e623022aa8f9ed66790205ff0fef542781e21487919", func := "abacist/abacistlaw17.StrictReads", spec := "strictReads", inPlace := ["internal/bytealg.IndexByteString", "internal/bytealg.IndexString", "internal/bytealg.CountString", "internal/abi.NoEscape", "internal/bytealg.MakeNoZero"], unfollowed := true, recurses := true, named := ["internal/bytealg.MaxLen", "unicode/utf8.first", "unicode/utf8.acceptRanges"], apart := false, laid := [("unicode/utf8.acceptRanges", laid_unicode_utf8_acceptRanges), ("unicode/utf8.first", laid_unicode_utf8_first)] }
def StrictReadsSaid : Prop := strictReadsRow.holds Tryz.pinned (OpenSpec.ofChange strictReadsSpec)

/-- ITS FALSE NEIGHBOUR: 'it returns false'. Refute it at one input. -/
def strictReadsWrong : ChangeSpec := { name := "strictReads", fn := fun _ => fun
  | [d1, d2, d3] => { results := [.lit (.bool false)], args := [d1, d2, d3] }
  | _ => none }
def StrictReadsWrongFalsely : Prop := strictReadsRow.holds Tryz.pinned (OpenSpec.ofChange strictReadsWrong)

/-- 'abacistlaw17.StrictItems': WHATEVER THE INPUT: true; the input reads as it did. -/
def strictItemsSpec : ChangeSpec := { name := "strictItems", fn := fun _ => fun
  | [d1, d2, d3, d4] => { results := [.lit (.bool true)], args := [d1, d2, d3, d4] }
  | _ => none }
def strictItemsRow : OpenClaim := { program := "ytcghgkagpkmpeaagreatdoor", sum := "a511a4ac8bac6b0add551e623022aa8f9ed66790205ff0fef542781e21487919", func := "abacist/abacistlaw17.StrictItems", spec := "strictItems", inPlace := ["internal/bytealg.IndexByteString", "internal/bytealg.IndexString", "internal/bytealg.CountString", "internal/abi.NoEscape", "internal/bytealg.MakeNoZero"], unfollowed := true, recurses := true, named := ["internal/bytealg.MaxLen", "unicode/utf8.first", "unicode/utf8.acceptRanges"], apart := false, laid := [("unicode/utf8.acceptRanges", laid_unicode_utf8_acceptRanges), ("unicode/utf8.first", laid_unicode_utf8_first)] }
def StrictItemsSaid : Prop := strictItemsRow.holds Tryz.pinned (OpenSpec.ofChange strictItemsSpec)

/-- ITS FALSE NEIGHBOUR: 'it returns false'. Refute it at one input. -/
def strictItemsWrong : ChangeSpec := { name := "strictItems", fn := fun _ => fun
  | [d1, d2, d3, d4] => { results := [.lit (.bool false)], args := [d1, d2, d3, d4] }
  | _ => none }
def StrictItemsWrongFalsely : Prop := strictItemsRow.holds Tryz.pinned (OpenSpec.ofChange strictItemsWrong)

/- THE SECOND FORM. 'bulk': how many values and letters a reading holds, each counted each time it is reached (what is shared counts as often as it is met; a slice's spare places count too). A statement '..UptoSaid' is the law's where the arguments, and the package variables that the reading takes, are together of bulk at most 1048576: NARROWER than '..Said'. Prove '..Said' where nothing that the law and all that it calls make is longer than what came in: it says more and counts as full. Else prove '..UptoSaid'. A law counts once. -/
mutual
def uptoBulk {H : Type} : DataW H → Nat
  | .lit (.string bytes) => bytes.length + 1
  | .lit _ => 1
  | .nil => 1
  | .ptr d => uptoBulk d + 1
  | .slice elems spare => uptoBulkAll elems + uptoBulkAll spare + 1
  | .agg parts => uptoBulkAll parts + 1
  | .iface _ d => uptoBulk d + 1
  | .map entries => uptoBulkEntries entries + 1
  | .held _ => 1
def uptoBulkAll {H : Type} : List (DataW H) → Nat
  | [] => 0
  | d :: r => uptoBulk d + uptoBulkAll r
def uptoBulkEntries {H : Type} : List (Lit × DataW H) → Nat
  | [] => 0
  | x :: r => uptoBulkEntry x + uptoBulkEntries r
def uptoBulkEntry {H : Type} : Lit × DataW H → Nat
  | (.string bytes, d) => bytes.length + uptoBulk d + 1
  | (_, d) => uptoBulk d + 1
 end
def uptoSmall : (H : Type) → List (DataW H) → Bool := fun _ ds => decide (uptoBulkAll ds ≤ 1048576)
def OpenSpec.upto (s : _root_.Go.ChangeSpec) : _root_.Go.OpenSpec := { _root_.Go.OpenSpec.ofChange s with cond := some uptoSmall }

/-- 'abacistlaw18.PasteKinds', WHERE WHAT IT READS IS OF BULK AT MOST 1048576: true; the input reads as it did. -/
def pasteKindsUptoRow : OpenClaim := { program := "ytcghgkagpkmpeaagreatdoor", sum := "a511a4ac8bac6b0add551e623022aa8f9ed66790205ff0fef542781e21487919", func := "abacist/abacistlaw18.PasteKinds", spec := "pasteKinds", inPlace := ["internal/bytealg.IndexByteString", "internal/bytealg.IndexString", "internal/bytealg.CountString", "internal/abi.NoEscape", "internal/bytealg.MakeNoZero"], unfollowed := true, recurses := true, named := ["internal/bytealg.MaxLen", "unicode/utf8.first", "unicode/utf8.acceptRanges"], apart := false, laid := [("unicode/utf8.acceptRanges", laid_unicode_utf8_acceptRanges), ("unicode/utf8.first", laid_unicode_utf8_first)], narrowed := true }
def PasteKindsUptoSaid : Prop := pasteKindsUptoRow.holds Tryz.pinned (OpenSpec.upto pasteKindsSpec)

/-- 'abacistlaw18.PasteBlanks', WHERE WHAT IT READS IS OF BULK AT MOST 1048576: true; the input reads as it did. -/
def pasteBlanksUptoRow : OpenClaim := { program := "ytcghgkagpkmpeaagreatdoor", sum := "a511a4ac8bac6b0add551e623022aa8f9ed66790205ff0fef542781e21487919", func := "abacist/abacistlaw18.PasteBlanks", spec := "pasteBlanks", inPlace := ["internal/bytealg.IndexByteString", "internal/bytealg.IndexString", "internal/bytealg.CountString", "internal/abi.NoEscape", "internal/bytealg.MakeNoZero"], unfollowed := true, recurses := true, named := ["internal/bytealg.MaxLen", "unicode/utf8.first", "unicode/utf8.acceptRanges"], apart := false, laid := [("unicode/utf8.acceptRanges", laid_unicode_utf8_acceptRanges), ("unicode/utf8.first", laid_unicode_utf8_first)], narrowed := true }
def PasteBlanksUptoSaid : Prop := pasteBlanksUptoRow.holds Tryz.pinned (OpenSpec.upto pasteBlanksSpec)

/-- 'abacistlaw17.StrictReads', WHERE WHAT IT READS IS OF BULK AT MOST 1048576: true; the input reads as it did. -/
def strictReadsUptoRow : OpenClaim := { program := "ytcghgkagpkmpeaagreatdoor", sum := "a511a4ac8bac6b0add551e623022aa8f9ed66790205ff0fef542781e21487919", func := "abacist/abacistlaw17.StrictReads", spec := "strictReads", inPlace := ["internal/bytealg.IndexByteString", "internal/bytealg.IndexString", "internal/bytealg.CountString", "internal/abi.NoEscape", "internal/bytealg.MakeNoZero"], unfollowed := true, recurses := true, named := ["internal/bytealg.MaxLen", "unicode/utf8.first", "unicode/utf8.acceptRanges"], apart := false, laid := [("unicode/utf8.acceptRanges", laid_unicode_utf8_acceptRanges), ("unicode/utf8.first", laid_unicode_utf8_first)], narrowed := true }
def StrictReadsUptoSaid : Prop := strictReadsUptoRow.holds Tryz.pinned (OpenSpec.upto strictReadsSpec)

/-- 'abacistlaw17.StrictItems', WHERE WHAT IT READS IS OF BULK AT MOST 1048576: true; the input reads as it did. -/
def strictItemsUptoRow : OpenClaim := { program := "ytcghgkagpkmpeaagreatdoor", sum := "a511a4ac8bac6b0add551e623022aa8f9ed66790205ff0fef542781e21487919", func := "abacist/abacistlaw17.StrictItems", spec := "strictItems", inPlace := ["internal/bytealg.IndexByteString", "internal/bytealg.IndexString", "internal/bytealg.CountString", "internal/abi.NoEscape", "internal/bytealg.MakeNoZero"], unfollowed := true, recurses := true, named := ["internal/bytealg.MaxLen", "unicode/utf8.first", "unicode/utf8.acceptRanges"], apart := false, laid := [("unicode/utf8.acceptRanges", laid_unicode_utf8_acceptRanges), ("unicode/utf8.first", laid_unicode_utf8_first)], narrowed := true }
def StrictItemsUptoSaid : Prop := strictItemsUptoRow.holds Tryz.pinned (OpenSpec.upto strictItemsSpec)

end Rows
end Go.Proofs.YtcghgkagpkmpeaaGreatDoor
