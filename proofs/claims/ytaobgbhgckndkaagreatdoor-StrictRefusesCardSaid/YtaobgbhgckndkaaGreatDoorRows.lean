/-
  NARROWER THAN 'FOR EVERY INPUT', by the rows' own cells (each row's printed sentence says how): PasteKinds: laid · PasteShown: laid · PasteLong: laid · PasteBlanks: laid · StrictRefuses: laid · PasteTexts: laid · StrictShows: laid · StrictApart: laid · StrictSwitches: laid · StrictReads: laid · StrictItems: laid.
  DERIVED. THE GIVEN ROWS OF THIS SEAT. 11 by the template 'for every input the law returns true; each argument reads behind the call as it read before'; 0 by the template 'total and deterministic' (their statements: YtaobgbhgckndkaaGreatDoorTotals.lean).
  GIVEN WITH THE SEED: the statements are not yours to turn. If you find one false, say at which input.
  Laid BY PROGRAM, IN A SANDBOX (cutbox-rows.mjs): the forced cells as the released guide's own fill.sh prints them over the translation 3ab453521a4a6acf… (all of the seat's roots in one cut). By AI agents, Wed Nov 11 2026. No macro, syntax, notation, axiom, sorry.
-/
import Derived.Test.YtaobgbhgckndkaaGreatDoorChecked
import GoSem.PinnedTables
import GoSem.Claim
import GoSem.ClaimJoined
import GoSem.ClaimMapViews
import Derived.JoinedTies
import Derived.KernelRfl
namespace Go.Proofs.YtaobgbhgckndkaaGreatDoor
/- THE CELL 'sum', in the pinned program and in every row, IS THE sha256 OF THE DUMP (.gsa) THAT YtaobgbhgckndkaaGreatDoorProg.lean LOADS. Nothing in Lean hashes anything: it is a label: what it is worth is what the hold of that sum in a sandbox is worth. -/
noncomputable def Tryz.pinned : Pinned := { name := "ytaobgbhgckndkaagreatdoor", sum := "3ab453521a4a6acf8cf285bf76e5ad35dd72185a119002fbd9a52f8b76fdeb58", checked := Tryz.checked }
namespace Rows
def none {H : Type} : Left H := { results := [], args := [] }

/- WHAT THE LISTED PACKAGE-LEVEL VARIABLES READ AS WHEN THE CALL BEGINS. Each datum BY PROGRAM (the guide's laid-datum.mjs) off the statement by which the dump's own 'gosem.cut.vars' lays the variable. In a bare row this is a premise. The card (YtaobgbhgckndkaaGreatDoorCards.lean) ties it to the program's text. -/
def laid_unicode_utf8_acceptRanges {H : Type} : DataW H := .agg [.agg [.lit (.int .u8 128), .lit (.int .u8 191)], .agg [.lit (.int .u8 160), .lit (.int .u8 191)], .agg [.lit (.int .u8 128), .lit (.int .u8 159)], .agg [.lit (.int .u8 144), .lit (.int .u8 191)], .agg [.lit (.int .u8 128), .lit (.int .u8 143)], .agg [.lit (.int .u8 0), .lit (.int .u8 0)], .agg [.lit (.int .u8 0), .lit (.int .u8 0)], .agg [.lit (.int .u8 0), .lit (.int .u8 0)], .agg [.lit (.int .u8 0), .lit (.int .u8 0)], .agg [.lit (.int .u8 0), .lit (.int .u8 0)], .agg [.lit (.int .u8 0), .lit (.int .u8 0)], .agg [.lit (.int .u8 0), .lit (.int .u8 0)], .agg [.lit (.int .u8 0), .lit (.int .u8 0)], .agg [.lit (.int .u8 0), .lit (.int .u8 0)], .agg [.lit (.int .u8 0), .lit (.int .u8 0)], .agg [.lit (.int .u8 0), .lit (.int .u8 0)]]
/-- One of Go's own tables, pinned by name: the form's constant. -/
def laid_unicode_utf8_first : DataW Unit := Go.Pinned.utf8First

/-- 'abacistlaw18.PasteKinds': WHATEVER THE INPUT: true; the input reads as it did. -/
def pasteKindsSpec : ChangeSpec := { name := "pasteKinds", fn := fun _ => fun
  | [d1, d2, d3] => { results := [.lit (.bool true)], args := [d1, d2, d3] }
  | _ => none }
def pasteKindsRow : OpenClaim := { program := "ytaobgbhgckndkaagreatdoor", sum := "3ab453521a4a6acf8cf285bf76e5ad35dd72185a119002fbd9a52f8b76fdeb58", func := "abacist/abacistlaw18.PasteKinds", spec := "pasteKinds", inPlace := ["internal/bytealg.IndexByteString", "internal/bytealg.IndexString", "internal/bytealg.CountString", "internal/abi.NoEscape", "internal/bytealg.MakeNoZero"], unfollowed := true, recurses := true, named := ["internal/bytealg.MaxLen", "unicode/utf8.first", "unicode/utf8.acceptRanges"], apart := false, laid := [("unicode/utf8.acceptRanges", laid_unicode_utf8_acceptRanges), ("unicode/utf8.first", laid_unicode_utf8_first)] }
def PasteKindsSaid : Prop := pasteKindsRow.holds Tryz.pinned (OpenSpec.ofChange pasteKindsSpec)

/-- ITS FALSE NEIGHBOUR: 'it returns false'. Refute it at one input. -/
def pasteKindsWrong : ChangeSpec := { name := "pasteKinds", fn := fun _ => fun
  | [d1, d2, d3] => { results := [.lit (.bool false)], args := [d1, d2, d3] }
  | _ => none }
def PasteKindsWrongFalsely : Prop := pasteKindsRow.holds Tryz.pinned (OpenSpec.ofChange pasteKindsWrong)

/-- 'abacistlaw18.PasteShown': WHATEVER THE INPUT: true; the input reads as it did. -/
def pasteShownSpec : ChangeSpec := { name := "pasteShown", fn := fun _ => fun
  | [d1, d2, d3] => { results := [.lit (.bool true)], args := [d1, d2, d3] }
  | _ => none }
def pasteShownRow : OpenClaim := { program := "ytaobgbhgckndkaagreatdoor", sum := "3ab453521a4a6acf8cf285bf76e5ad35dd72185a119002fbd9a52f8b76fdeb58", func := "abacist/abacistlaw18.PasteShown", spec := "pasteShown", inPlace := ["internal/bytealg.IndexByteString", "internal/bytealg.IndexString", "internal/bytealg.CountString", "internal/abi.NoEscape", "internal/bytealg.MakeNoZero"], unfollowed := true, recurses := true, named := ["internal/bytealg.MaxLen", "unicode/utf8.first", "unicode/utf8.acceptRanges"], apart := false, laid := [("unicode/utf8.acceptRanges", laid_unicode_utf8_acceptRanges), ("unicode/utf8.first", laid_unicode_utf8_first)] }
def PasteShownSaid : Prop := pasteShownRow.holds Tryz.pinned (OpenSpec.ofChange pasteShownSpec)

/-- ITS FALSE NEIGHBOUR: 'it returns false'. Refute it at one input. -/
def pasteShownWrong : ChangeSpec := { name := "pasteShown", fn := fun _ => fun
  | [d1, d2, d3] => { results := [.lit (.bool false)], args := [d1, d2, d3] }
  | _ => none }
def PasteShownWrongFalsely : Prop := pasteShownRow.holds Tryz.pinned (OpenSpec.ofChange pasteShownWrong)

/-- 'abacistlaw18.PasteLong': WHATEVER THE INPUT: true; the input reads as it did. -/
def pasteLongSpec : ChangeSpec := { name := "pasteLong", fn := fun _ => fun
  | [d1, d2, d3] => { results := [.lit (.bool true)], args := [d1, d2, d3] }
  | _ => none }
def pasteLongRow : OpenClaim := { program := "ytaobgbhgckndkaagreatdoor", sum := "3ab453521a4a6acf8cf285bf76e5ad35dd72185a119002fbd9a52f8b76fdeb58", func := "abacist/abacistlaw18.PasteLong", spec := "pasteLong", inPlace := ["internal/bytealg.IndexByteString", "internal/bytealg.IndexString", "internal/bytealg.CountString", "internal/abi.NoEscape", "internal/bytealg.MakeNoZero"], unfollowed := true, recurses := true, named := ["internal/bytealg.MaxLen", "unicode/utf8.first", "unicode/utf8.acceptRanges"], apart := false, laid := [("unicode/utf8.acceptRanges", laid_unicode_utf8_acceptRanges), ("unicode/utf8.first", laid_unicode_utf8_first)] }
def PasteLongSaid : Prop := pasteLongRow.holds Tryz.pinned (OpenSpec.ofChange pasteLongSpec)

/-- ITS FALSE NEIGHBOUR: 'it returns false'. Refute it at one input. -/
def pasteLongWrong : ChangeSpec := { name := "pasteLong", fn := fun _ => fun
  | [d1, d2, d3] => { results := [.lit (.bool false)], args := [d1, d2, d3] }
  | _ => none }
def PasteLongWrongFalsely : Prop := pasteLongRow.holds Tryz.pinned (OpenSpec.ofChange pasteLongWrong)

/-- 'abacistlaw18.PasteBlanks': WHATEVER THE INPUT: true; the input reads as it did. -/
def pasteBlanksSpec : ChangeSpec := { name := "pasteBlanks", fn := fun _ => fun
  | [d1, d2, d3, d4, d5] => { results := [.lit (.bool true)], args := [d1, d2, d3, d4, d5] }
  | _ => none }
def pasteBlanksRow : OpenClaim := { program := "ytaobgbhgckndkaagreatdoor", sum := "3ab453521a4a6acf8cf285bf76e5ad35dd72185a119002fbd9a52f8b76fdeb58", func := "abacist/abacistlaw18.PasteBlanks", spec := "pasteBlanks", inPlace := ["internal/bytealg.IndexByteString", "internal/bytealg.IndexString", "internal/bytealg.CountString", "internal/abi.NoEscape", "internal/bytealg.MakeNoZero"], unfollowed := true, recurses := true, named := ["internal/bytealg.MaxLen", "unicode/utf8.first", "unicode/utf8.acceptRanges"], apart := false, laid := [("unicode/utf8.acceptRanges", laid_unicode_utf8_acceptRanges), ("unicode/utf8.first", laid_unicode_utf8_first)] }
def PasteBlanksSaid : Prop := pasteBlanksRow.holds Tryz.pinned (OpenSpec.ofChange pasteBlanksSpec)

/-- ITS FALSE NEIGHBOUR: 'it returns false'. Refute it at one input. -/
def pasteBlanksWrong : ChangeSpec := { name := "pasteBlanks", fn := fun _ => fun
  | [d1, d2, d3, d4, d5] => { results := [.lit (.bool false)], args := [d1, d2, d3, d4, d5] }
  | _ => none }
def PasteBlanksWrongFalsely : Prop := pasteBlanksRow.holds Tryz.pinned (OpenSpec.ofChange pasteBlanksWrong)

/-- 'abacistlaw17.StrictRefuses': WHATEVER THE INPUT: true; the input reads as it did. -/
def strictRefusesSpec : ChangeSpec := { name := "strictRefuses", fn := fun _ => fun
  | [d1, d2, d3, d4, d5, d6] => { results := [.lit (.bool true)], args := [d1, d2, d3, d4, d5, d6] }
  | _ => none }
def strictRefusesRow : OpenClaim := { program := "ytaobgbhgckndkaagreatdoor", sum := "3ab453521a4a6acf8cf285bf76e5ad35dd72185a119002fbd9a52f8b76fdeb58", func := "abacist/abacistlaw17.StrictRefuses", spec := "strictRefuses", inPlace := ["internal/bytealg.IndexByteString", "internal/bytealg.IndexString", "internal/bytealg.CountString", "internal/abi.NoEscape", "internal/bytealg.MakeNoZero"], unfollowed := true, recurses := true, named := ["internal/bytealg.MaxLen", "unicode/utf8.first", "unicode/utf8.acceptRanges"], apart := false, laid := [("unicode/utf8.acceptRanges", laid_unicode_utf8_acceptRanges), ("unicode/utf8.first", laid_unicode_utf8_first)] }
def StrictRefusesSaid : Prop := strictRefusesRow.holds Tryz.pinned (OpenSpec.ofChange strictRefusesSpec)

/-- ITS FALSE NEIGHBOUR: 'it returns false'. Refute it at one input. -/
def strictRefusesWrong : ChangeSpec := { name := "strictRefuses", fn := fun _ => fun
  | [d1, d2, d3, d4, d5, d6] => { results := [.lit (.bool false)], args := [d1, d2, d3, d4, d5, d6] }
  | _ => none }
def StrictRefusesWrongFalsely : Prop := strictRefusesRow.holds Tryz.pinned (OpenSpec.ofChange strictRefusesWrong)

/-- 'abacistlaw18.PasteTexts': WHATEVER THE INPUT: true; the input reads as it did. -/
def pasteTextsSpec : ChangeSpec := { name := "pasteTexts", fn := fun _ => fun
  | [d1, d2, d3, d4] => { results := [.lit (.bool true)], args := [d1, d2, d3, d4] }
  | _ => none }
def pasteTextsRow : OpenClaim := { program := "ytaobgbhgckndkaagreatdoor", sum := "3ab453521a4a6acf8cf285bf76e5ad35dd72185a119002fbd9a52f8b76fdeb58", func := "abacist/abacistlaw18.PasteTexts", spec := "pasteTexts", inPlace := ["internal/bytealg.IndexByteString", "internal/bytealg.IndexString", "internal/bytealg.CountString", "internal/abi.NoEscape", "internal/bytealg.MakeNoZero"], unfollowed := true, recurses := true, named := ["internal/bytealg.MaxLen", "unicode/utf8.first", "unicode/utf8.acceptRanges"], apart := false, laid := [("unicode/utf8.acceptRanges", laid_unicode_utf8_acceptRanges), ("unicode/utf8.first", laid_unicode_utf8_first)] }
def PasteTextsSaid : Prop := pasteTextsRow.holds Tryz.pinned (OpenSpec.ofChange pasteTextsSpec)

/-- ITS FALSE NEIGHBOUR: 'it returns false'. Refute it at one input. -/
def pasteTextsWrong : ChangeSpec := { name := "pasteTexts", fn := fun _ => fun
  | [d1, d2, d3, d4] => { results := [.lit (.bool false)], args := [d1, d2, d3, d4] }
  | _ => none }
def PasteTextsWrongFalsely : Prop := pasteTextsRow.holds Tryz.pinned (OpenSpec.ofChange pasteTextsWrong)

/-- 'abacistlaw17.StrictShows': WHATEVER THE INPUT: true; the input reads as it did. -/
def strictShowsSpec : ChangeSpec := { name := "strictShows", fn := fun _ => fun
  | [d1, d2, d3, d4] => { results := [.lit (.bool true)], args := [d1, d2, d3, d4] }
  | _ => none }
def strictShowsRow : OpenClaim := { program := "ytaobgbhgckndkaagreatdoor", sum := "3ab453521a4a6acf8cf285bf76e5ad35dd72185a119002fbd9a52f8b76fdeb58", func := "abacist/abacistlaw17.StrictShows", spec := "strictShows", inPlace := ["internal/bytealg.IndexByteString", "internal/bytealg.IndexString", "internal/bytealg.CountString", "internal/abi.NoEscape", "internal/bytealg.MakeNoZero"], unfollowed := true, recurses := true, named := ["internal/bytealg.MaxLen", "unicode/utf8.first", "unicode/utf8.acceptRanges"], apart := false, laid := [("unicode/utf8.acceptRanges", laid_unicode_utf8_acceptRanges), ("unicode/utf8.first", laid_unicode_utf8_first)] }
def StrictShowsSaid : Prop := strictShowsRow.holds Tryz.pinned (OpenSpec.ofChange strictShowsSpec)

/-- ITS FALSE NEIGHBOUR: 'it returns false'. Refute it at one input. -/
def strictShowsWrong : ChangeSpec := { name := "strictShows", fn := fun _ => fun
  | [d1, d2, d3, d4] => { results := [.lit (.bool false)], args := [d1, d2, d3, d4] }
  | _ => none }
def StrictShowsWrongFalsely : Prop := strictShowsRow.holds Tryz.pinned (OpenSpec.ofChange strictShowsWrong)

/-- 'abacistlaw17.StrictApart': WHATEVER THE INPUT: true; the input reads as it did. -/
def strictApartSpec : ChangeSpec := { name := "strictApart", fn := fun _ => fun
  | [d1, d2, d3, d4] => { results := [.lit (.bool true)], args := [d1, d2, d3, d4] }
  | _ => none }
def strictApartRow : OpenClaim := { program := "ytaobgbhgckndkaagreatdoor", sum := "3ab453521a4a6acf8cf285bf76e5ad35dd72185a119002fbd9a52f8b76fdeb58", func := "abacist/abacistlaw17.StrictApart", spec := "strictApart", inPlace := ["internal/bytealg.IndexByteString", "internal/bytealg.IndexString", "internal/bytealg.CountString", "internal/abi.NoEscape", "internal/bytealg.MakeNoZero"], unfollowed := true, recurses := true, named := ["internal/bytealg.MaxLen", "unicode/utf8.first", "unicode/utf8.acceptRanges"], apart := false, laid := [("unicode/utf8.acceptRanges", laid_unicode_utf8_acceptRanges), ("unicode/utf8.first", laid_unicode_utf8_first)] }
def StrictApartSaid : Prop := strictApartRow.holds Tryz.pinned (OpenSpec.ofChange strictApartSpec)

/-- ITS FALSE NEIGHBOUR: 'it returns false'. Refute it at one input. -/
def strictApartWrong : ChangeSpec := { name := "strictApart", fn := fun _ => fun
  | [d1, d2, d3, d4] => { results := [.lit (.bool false)], args := [d1, d2, d3, d4] }
  | _ => none }
def StrictApartWrongFalsely : Prop := strictApartRow.holds Tryz.pinned (OpenSpec.ofChange strictApartWrong)

/-- 'abacistlaw17.StrictSwitches': WHATEVER THE INPUT: true; the input reads as it did. -/
def strictSwitchesSpec : ChangeSpec := { name := "strictSwitches", fn := fun _ => fun
  | [d1, d2, d3, d4, d5, d6] => { results := [.lit (.bool true)], args := [d1, d2, d3, d4, d5, d6] }
  | _ => none }
def strictSwitchesRow : OpenClaim := { program := "ytaobgbhgckndkaagreatdoor", sum := "3ab453521a4a6acf8cf285bf76e5ad35dd72185a119002fbd9a52f8b76fdeb58", func := "abacist/abacistlaw17.StrictSwitches", spec := "strictSwitches", inPlace := ["internal/bytealg.IndexByteString", "internal/bytealg.IndexString", "internal/bytealg.CountString", "internal/abi.NoEscape", "internal/bytealg.MakeNoZero"], unfollowed := true, recurses := true, named := ["internal/bytealg.MaxLen", "unicode/utf8.first", "unicode/utf8.acceptRanges"], apart := false, laid := [("unicode/utf8.acceptRanges", laid_unicode_utf8_acceptRanges), ("unicode/utf8.first", laid_unicode_utf8_first)] }
def StrictSwitchesSaid : Prop := strictSwitchesRow.holds Tryz.pinned (OpenSpec.ofChange strictSwitchesSpec)

/-- ITS FALSE NEIGHBOUR: 'it returns false'. Refute it at one input. -/
def strictSwitchesWrong : ChangeSpec := { name := "strictSwitches", fn := fun _ => fun
  | [d1, d2, d3, d4, d5, d6] => { results := [.lit (.bool false)], args := [d1, d2, d3, d4, d5, d6] }
  | _ => none }
def StrictSwitchesWrongFalsely : Prop := strictSwitchesRow.holds Tryz.pinned (OpenSpec.ofChange strictSwitchesWrong)

/-- 'abacistlaw17.StrictReads': WHATEVER THE INPUT: true; the input reads as it did. -/
def strictReadsSpec : ChangeSpec := { name := "strictReads", fn := fun _ => fun
  | [d1, d2, d3] => { results := [.lit (.bool true)], args := [d1, d2, d3] }
  | _ => none }
def strictReadsRow : OpenClaim := { program := "ytaobgbhgckndkaagreatdoor", sum := "3ab453521a4a6acf8cf285bf76e5ad35dd72185a119002fbd9a52f8b76fdeb58", func := "abacist/abacistlaw17.StrictReads", spec := "strictReads", inPlace := ["internal/bytealg.IndexByteString", "internal/bytealg.IndexString", "internal/bytealg.CountString", "internal/abi.NoEscape", "internal/bytealg.MakeNoZero"], unfollowed := true, recurses := true, named := ["internal/bytealg.MaxLen", "unicode/utf8.first", "unicode/utf8.acceptRanges"], apart := false, laid := [("unicode/utf8.acceptRanges", laid_unicode_utf8_acceptRanges), ("unicode/utf8.first", laid_unicode_utf8_first)] }
def StrictReadsSaid : Prop := strictReadsRow.holds Tryz.pinned (OpenSpec.ofChange strictReadsSpec)

/-- ITS FALSE NEIGHBOUR: 'it returns false'. Refute it at one input. -/
def strictReadsWrong : ChangeSpec := { name := "strictReads", fn := fun _ => fun
  | [d1, d2, d3] => { results := [.lit (.bool false)], args := [d1, d2, d3] }
  | _ => none }
def StrictReadsWrongFalsely : Prop := strictReadsRow.holds Tryz.pinned (OpenSpec.ofChange strictReadsWrong)

/-- 'abacistlaw17.StrictItems': WHATEVER THE INPUT: true; the input reads as it did. -/
def strictItemsSpec : ChangeSpec := { name := "strictItems", fn := fun _ => fun
  | [d1, d2, d3, d4] => { results := [.lit (.bool true)], args := [d1, d2, d3, d4] }
  | _ => none }
def strictItemsRow : OpenClaim := { program := "ytaobgbhgckndkaagreatdoor", sum := "3ab453521a4a6acf8cf285bf76e5ad35dd72185a119002fbd9a52f8b76fdeb58", func := "abacist/abacistlaw17.StrictItems", spec := "strictItems", inPlace := ["internal/bytealg.IndexByteString", "internal/bytealg.IndexString", "internal/bytealg.CountString", "internal/abi.NoEscape", "internal/bytealg.MakeNoZero"], unfollowed := true, recurses := true, named := ["internal/bytealg.MaxLen", "unicode/utf8.first", "unicode/utf8.acceptRanges"], apart := false, laid := [("unicode/utf8.acceptRanges", laid_unicode_utf8_acceptRanges), ("unicode/utf8.first", laid_unicode_utf8_first)] }
def StrictItemsSaid : Prop := strictItemsRow.holds Tryz.pinned (OpenSpec.ofChange strictItemsSpec)

/-- ITS FALSE NEIGHBOUR: 'it returns false'. Refute it at one input. -/
def strictItemsWrong : ChangeSpec := { name := "strictItems", fn := fun _ => fun
  | [d1, d2, d3, d4] => { results := [.lit (.bool false)], args := [d1, d2, d3, d4] }
  | _ => none }
def StrictItemsWrongFalsely : Prop := strictItemsRow.holds Tryz.pinned (OpenSpec.ofChange strictItemsWrong)

/- THE SECOND FORM. 'bulk': how many values and letters a reading holds, each counted each time it is reached (what is shared counts as often as it is met; a slice's spare places count too). A statement '..UptoSaid' is the law's where the arguments, and the package variables that the reading takes, are together of bulk at most 1048576: NARROWER than '..Said'. Prove '..Said' where nothing that the law and all that it calls make is longer than what came in: it says more and counts as full. Else prove '..UptoSaid'. A law counts once. -/
mutual
def uptoBulk {H : Type} : DataW H → Nat
  | .lit (.string bytes) => bytes.length + 1
  | .lit _ => 1
  | .nil => 1
  | .ptr d => uptoBulk d + 1
  | .slice elems spare => uptoBulkAll elems + uptoBulkAll spare + 1
  | .agg parts => uptoBulkAll parts + 1
  | .iface _ d => uptoBulk d + 1
  | .map entries => uptoBulkEntries entries + 1
  | .held _ => 1
def uptoBulkAll {H : Type} : List (DataW H) → Nat
  | [] => 0
  | d :: r => uptoBulk d + uptoBulkAll r
def uptoBulkEntries {H : Type} : List (Lit × DataW H) → Nat
  | [] => 0
  | x :: r => uptoBulkEntry x + uptoBulkEntries r
def uptoBulkEntry {H : Type} : Lit × DataW H → Nat
  | (.string bytes, d) => bytes.length + uptoBulk d + 1
  | (_, d) => uptoBulk d + 1
 end
def uptoSmall : (H : Type) → List (DataW H) → Bool := fun _ ds => decide (uptoBulkAll ds ≤ 1048576)
def OpenSpec.upto (s : _root_.Go.ChangeSpec) : _root_.Go.OpenSpec := { _root_.Go.OpenSpec.ofChange s with cond := some uptoSmall }

/-- 'abacistlaw18.PasteKinds', WHERE WHAT IT READS IS OF BULK AT MOST 1048576: true; the input reads as it did. -/
def pasteKindsUptoRow : OpenClaim := { program := "ytaobgbhgckndkaagreatdoor", sum := "3ab453521a4a6acf8cf285bf76e5ad35dd72185a119002fbd9a52f8b76fdeb58", func := "abacist/abacistlaw18.PasteKinds", spec := "pasteKinds", inPlace := ["internal/bytealg.IndexByteString", "internal/bytealg.IndexString", "internal/bytealg.CountString", "internal/abi.NoEscape", "internal/bytealg.MakeNoZero"], unfollowed := true, recurses := true, named := ["internal/bytealg.MaxLen", "unicode/utf8.first", "unicode/utf8.acceptRanges"], apart := false, laid := [("unicode/utf8.acceptRanges", laid_unicode_utf8_acceptRanges), ("unicode/utf8.first", laid_unicode_utf8_first)], narrowed := true }
def PasteKindsUptoSaid : Prop := pasteKindsUptoRow.holds Tryz.pinned (OpenSpec.upto pasteKindsSpec)

/-- 'abacistlaw18.PasteShown', WHERE WHAT IT READS IS OF BULK AT MOST 1048576: true; the input reads as it did. -/
def pasteShownUptoRow : OpenClaim := { program := "ytaobgbhgckndkaagreatdoor", sum := "3ab453521a4a6acf8cf285bf76e5ad35dd72185a119002fbd9a52f8b76fdeb58", func := "abacist/abacistlaw18.PasteShown", spec := "pasteShown", inPlace := ["internal/bytealg.IndexByteString", "internal/bytealg.IndexString", "internal/bytealg.CountString", "internal/abi.NoEscape", "internal/bytealg.MakeNoZero"], unfollowed := true, recurses := true, named := ["internal/bytealg.MaxLen", "unicode/utf8.first", "unicode/utf8.acceptRanges"], apart := false, laid := [("unicode/utf8.acceptRanges", laid_unicode_utf8_acceptRanges), ("unicode/utf8.first", laid_unicode_utf8_first)], narrowed := true }
def PasteShownUptoSaid : Prop := pasteShownUptoRow.holds Tryz.pinned (OpenSpec.upto pasteShownSpec)

/-- 'abacistlaw18.PasteLong', WHERE WHAT IT READS IS OF BULK AT MOST 1048576: true; the input reads as it did. -/
def pasteLongUptoRow : OpenClaim := { program := "ytaobgbhgckndkaagreatdoor", sum := "3ab453521a4a6acf8cf285bf76e5ad35dd72185a119002fbd9a52f8b76fdeb58", func := "abacist/abacistlaw18.PasteLong", spec := "pasteLong", inPlace := ["internal/bytealg.IndexByteString", "internal/bytealg.IndexString", "internal/bytealg.CountString", "internal/abi.NoEscape", "internal/bytealg.MakeNoZero"], unfollowed := true, recurses := true, named := ["internal/bytealg.MaxLen", "unicode/utf8.first", "unicode/utf8.acceptRanges"], apart := false, laid := [("unicode/utf8.acceptRanges", laid_unicode_utf8_acceptRanges), ("unicode/utf8.first", laid_unicode_utf8_first)], narrowed := true }
def PasteLongUptoSaid : Prop := pasteLongUptoRow.holds Tryz.pinned (OpenSpec.upto pasteLongSpec)

/-- 'abacistlaw18.PasteBlanks', WHERE WHAT IT READS IS OF BULK AT MOST 1048576: true; the input reads as it did. -/
def pasteBlanksUptoRow : OpenClaim := { program := "ytaobgbhgckndkaagreatdoor", sum := "3ab453521a4a6acf8cf285bf76e5ad35dd72185a119002fbd9a52f8b76fdeb58", func := "abacist/abacistlaw18.PasteBlanks", spec := "pasteBlanks", inPlace := ["internal/bytealg.IndexByteString", "internal/bytealg.IndexString", "internal/bytealg.CountString", "internal/abi.NoEscape", "internal/bytealg.MakeNoZero"], unfollowed := true, recurses := true, named := ["internal/bytealg.MaxLen", "unicode/utf8.first", "unicode/utf8.acceptRanges"], apart := false, laid := [("unicode/utf8.acceptRanges", laid_unicode_utf8_acceptRanges), ("unicode/utf8.first", laid_unicode_utf8_first)], narrowed := true }
def PasteBlanksUptoSaid : Prop := pasteBlanksUptoRow.holds Tryz.pinned (OpenSpec.upto pasteBlanksSpec)

/-- 'abacistlaw17.StrictRefuses', WHERE WHAT IT READS IS OF BULK AT MOST 1048576: true; the input reads as it did. -/
def strictRefusesUptoRow : OpenClaim := { program := "ytaobgbhgckndkaagreatdoor", sum := "3ab453521a4a6acf8cf285bf76e5ad35dd72185a119002fbd9a52f8b76fdeb58", func := "abacist/abacistlaw17.StrictRefuses", spec := "strictRefuses", inPlace := ["internal/bytealg.IndexByteString", "internal/bytealg.IndexString", "internal/bytealg.CountString", "internal/abi.NoEscape", "internal/bytealg.MakeNoZero"], unfollowed := true, recurses := true, named := ["internal/bytealg.MaxLen", "unicode/utf8.first", "unicode/utf8.acceptRanges"], apart := false, laid := [("unicode/utf8.acceptRanges", laid_unicode_utf8_acceptRanges), ("unicode/utf8.first", laid_unicode_utf8_first)], narrowed := true }
def StrictRefusesUptoSaid : Prop := strictRefusesUptoRow.holds Tryz.pinned (OpenSpec.upto strictRefusesSpec)

/-- 'abacistlaw18.PasteTexts', WHERE WHAT IT READS IS OF BULK AT MOST 1048576: true; the input reads as it did. -/
def pasteTextsUptoRow : OpenClaim := { program := "ytaobgbhgckndkaagreatdoor", sum := "3ab453521a4a6acf8cf285bf76e5ad35dd72185a119002fbd9a52f8b76fdeb58", func := "abacist/abacistlaw18.PasteTexts", spec := "pasteTexts", inPlace := ["internal/bytealg.IndexByteString", "internal/bytealg.IndexString", "internal/bytealg.CountString", "internal/abi.NoEscape", "internal/bytealg.MakeNoZero"], unfollowed := true, recurses := true, named := ["internal/bytealg.MaxLen", "unicode/utf8.first", "unicode/utf8.acceptRanges"], apart := false, laid := [("unicode/utf8.acceptRanges", laid_unicode_utf8_acceptRanges), ("unicode/utf8.first", laid_unicode_utf8_first)], narrowed := true }
def PasteTextsUptoSaid : Prop := pasteTextsUptoRow.holds Tryz.pinned (OpenSpec.upto pasteTextsSpec)

/-- 'abacistlaw17.StrictShows', WHERE WHAT IT READS IS OF BULK AT MOST 1048576: true; the input reads as it did. -/
def strictShowsUptoRow : OpenClaim := { program := "ytaobgbhgckndkaagreatdoor", sum := "3ab453521a4a6acf8cf285bf76e5ad35dd72185a119002fbd9a52f8b76fdeb58", func := "abacist/abacistlaw17.StrictShows", spec := "strictShows", inPlace := ["internal/bytealg.IndexByteString", "internal/bytealg.IndexString", "internal/bytealg.CountString", "internal/abi.NoEscape", "internal/bytealg.MakeNoZero"], unfollowed := true, recurses := true, named := ["internal/bytealg.MaxLen", "unicode/utf8.first", "unicode/utf8.acceptRanges"], apart := false, laid := [("unicode/utf8.acceptRanges", laid_unicode_utf8_acceptRanges), ("unicode/utf8.first", laid_unicode_utf8_first)], narrowed := true }
def StrictShowsUptoSaid : Prop := strictShowsUptoRow.holds Tryz.pinned (OpenSpec.upto strictShowsSpec)

/-- 'abacistlaw17.StrictApart', WHERE WHAT IT READS IS OF BULK AT MOST 1048576: true; the input reads as it did. -/
def strictApartUptoRow : OpenClaim := { program := "ytaobgbhgckndkaagreatdoor", sum := "3ab453521a4a6acf8cf285bf76e5ad35dd72185a119002fbd9a52f8b76fdeb58", func := "abacist/abacistlaw17.StrictApart", spec := "strictApart", inPlace := ["internal/bytealg.IndexByteString", "internal/bytealg.IndexString", "internal/bytealg.CountString", "internal/abi.NoEscape", "internal/bytealg.MakeNoZero"], unfollowed := true, recurses := true, named := ["internal/bytealg.MaxLen", "unicode/utf8.first", "unicode/utf8.acceptRanges"], apart := false, laid := [("unicode/utf8.acceptRanges", laid_unicode_utf8_acceptRanges), ("unicode/utf8.first", laid_unicode_utf8_first)], narrowed := true }
def StrictApartUptoSaid : Prop := strictApartUptoRow.holds Tryz.pinned (OpenSpec.upto strictApartSpec)

/-- 'abacistlaw17.StrictSwitches', WHERE WHAT IT READS IS OF BULK AT MOST 1048576: true; the input reads as it did. -/
def strictSwitchesUptoRow : OpenClaim := { program := "ytaobgbhgckndkaagreatdoor", sum := "3ab453521a4a6acf8cf285bf76e5ad35dd72185a119002fbd9a52f8b76fdeb58", func := "abacist/abacistlaw17.StrictSwitches", spec := "strictSwitches", inPlace := ["internal/bytealg.IndexByteString", "internal/bytealg.IndexString", "internal/bytealg.CountString", "internal/abi.NoEscape", "internal/bytealg.MakeNoZero"], unfollowed := true, recurses := true, named := ["internal/bytealg.MaxLen", "unicode/utf8.first", "unicode/utf8.acceptRanges"], apart := false, laid := [("unicode/utf8.acceptRanges", laid_unicode_utf8_acceptRanges), ("unicode/utf8.first", laid_unicode_utf8_first)], narrowed := true }
def StrictSwitchesUptoSaid : Prop := strictSwitchesUptoRow.holds Tryz.pinned (OpenSpec.upto strictSwitchesSpec)

/-- 'abacistlaw17.StrictReads', WHERE WHAT IT READS IS OF BULK AT MOST 1048576: true; the input reads as it did. -/
def strictReadsUptoRow : OpenClaim := { program := "ytaobgbhgckndkaagreatdoor", sum := "3ab453521a4a6acf8cf285bf76e5ad35dd72185a119002fbd9a52f8b76fdeb58", func := "abacist/abacistlaw17.StrictReads", spec := "strictReads", inPlace := ["internal/bytealg.IndexByteString", "internal/bytealg.IndexString", "internal/bytealg.CountString", "internal/abi.NoEscape", "internal/bytealg.MakeNoZero"], unfollowed := true, recurses := true, named := ["internal/bytealg.MaxLen", "unicode/utf8.first", "unicode/utf8.acceptRanges"], apart := false, laid := [("unicode/utf8.acceptRanges", laid_unicode_utf8_acceptRanges), ("unicode/utf8.first", laid_unicode_utf8_first)], narrowed := true }
def StrictReadsUptoSaid : Prop := strictReadsUptoRow.holds Tryz.pinned (OpenSpec.upto strictReadsSpec)

/-- 'abacistlaw17.StrictItems', WHERE WHAT IT READS IS OF BULK AT MOST 1048576: true; the input reads as it did. -/
def strictItemsUptoRow : OpenClaim := { program := "ytaobgbhgckndkaagreatdoor", sum := "3ab453521a4a6acf8cf285bf76e5ad35dd72185a119002fbd9a52f8b76fdeb58", func := "abacist/abacistlaw17.StrictItems", spec := "strictItems", inPlace := ["internal/bytealg.IndexByteString", "internal/bytealg.IndexString", "internal/bytealg.CountString", "internal/abi.NoEscape", "internal/bytealg.MakeNoZero"], unfollowed := true, recurses := true, named := ["internal/bytealg.MaxLen", "unicode/utf8.first", "unicode/utf8.acceptRanges"], apart := false, laid := [("unicode/utf8.acceptRanges", laid_unicode_utf8_acceptRanges), ("unicode/utf8.first", laid_unicode_utf8_first)], narrowed := true }
def StrictItemsUptoSaid : Prop := strictItemsUptoRow.holds Tryz.pinned (OpenSpec.upto strictItemsSpec)

end Rows
end Go.Proofs.YtaobgbhgckndkaaGreatDoor
