/-
  NARROWER THAN 'FOR EVERY INPUT', by the rows' own cells (each row's printed sentence says how): PatternSame: laid · LocaleAround: laid · LocaleWords: laid · LocaleSigns: laid · LocaleApart: laid · LocaleTold: laid · FortyNone: laid · FortyMay: laid.
  DERIVED. THE GIVEN ROWS OF THIS SEAT. 8 by the template 'for every input the law returns true; each argument reads behind the call as it read before'; 0 by the template 'total and deterministic' (their statements: YtdkjkbbibdppoaaGreatDoorTotals.lean).
  GIVEN WITH THE SEED: the statements are not yours to turn. If you find one false, say at which input.
  Laid BY PROGRAM, IN A SANDBOX (cutbox-rows.mjs): the forced cells as the released guide's own fill.sh prints them over the translation 18be6210965d5b4c… (all of the seat's roots in one cut). By AI agents, Wed Nov 11 2026. No macro, syntax, notation, axiom, sorry.
-/
import Derived.Test.YtdkjkbbibdppoaaGreatDoorChecked
import GoSem.PinnedTables
import GoSem.Claim
import GoSem.ClaimJoined
import GoSem.ClaimMapViews
import Derived.JoinedTies
import Derived.KernelRfl
namespace Go.Proofs.YtdkjkbbibdppoaaGreatDoor
/- THE CELL 'sum', in the pinned program and in every row, IS THE sha256 OF THE DUMP (.gsa) THAT YtdkjkbbibdppoaaGreatDoorProg.lean LOADS. Nothing in Lean hashes anything: it is a label: what it is worth is what the hold of that sum in a sandbox is worth. -/
noncomputable def Tryz.pinned : Pinned := { name := "ytdkjkbbibdppoaagreatdoor", sum := "18be6210965d5b4cda83b5c940f04a74cc2a410620e1524b726fab9b1a9fadf0", checked := Tryz.checked }
namespace Rows
def none {H : Type} : Left H := { results := [], args := [] }

/- WHAT THE LISTED PACKAGE-LEVEL VARIABLES READ AS WHEN THE CALL BEGINS. Each datum BY PROGRAM (the guide's laid-datum.mjs) off the statement by which the dump's own 'gosem.cut.vars' lays the variable. In a bare row this is a premise. The card (YtdkjkbbibdppoaaGreatDoorCards.lean) ties it to the program's text. -/
def laid_unicode_utf8_acceptRanges {H : Type} : DataW H := .agg [.agg [.lit (.int .u8 128), .lit (.int .u8 191)], .agg [.lit (.int .u8 160), .lit (.int .u8 191)], .agg [.lit (.int .u8 128), .lit (.int .u8 159)], .agg [.lit (.int .u8 144), .lit (.int .u8 191)], .agg [.lit (.int .u8 128), .lit (.int .u8 143)], .agg [.lit (.int .u8 0), .lit (.int .u8 0)], .agg [.lit (.int .u8 0), .lit (.int .u8 0)], .agg [.lit (.int .u8 0), .lit (.int .u8 0)], .agg [.lit (.int .u8 0), .lit (.int .u8 0)], .agg [.lit (.int .u8 0), .lit (.int .u8 0)], .agg [.lit (.int .u8 0), .lit (.int .u8 0)], .agg [.lit (.int .u8 0), .lit (.int .u8 0)], .agg [.lit (.int .u8 0), .lit (.int .u8 0)], .agg [.lit (.int .u8 0), .lit (.int .u8 0)], .agg [.lit (.int .u8 0), .lit (.int .u8 0)], .agg [.lit (.int .u8 0), .lit (.int .u8 0)]]
/-- One of Go's own tables, pinned by name: the form's constant. -/
def laid_unicode_utf8_first : DataW Unit := Go.Pinned.utf8First

/-- 'abacistlaw10.PatternSame': WHATEVER THE INPUT: true; the input reads as it did. -/
def patternSameSpec : ChangeSpec := { name := "patternSame", fn := fun _ => fun
  | [d1, d2] => { results := [.lit (.bool true)], args := [d1, d2] }
  | _ => none }
def patternSameRow : OpenClaim := { program := "ytdkjkbbibdppoaagreatdoor", sum := "18be6210965d5b4cda83b5c940f04a74cc2a410620e1524b726fab9b1a9fadf0", func := "abacist/abacistlaw10.PatternSame", spec := "patternSame", inPlace := ["internal/bytealg.IndexByteString", "internal/bytealg.IndexString", "internal/bytealg.CountString", "internal/abi.NoEscape", "internal/bytealg.MakeNoZero"], unfollowed := true, recurses := true, named := ["internal/bytealg.MaxLen", "unicode/utf8.first", "unicode/utf8.acceptRanges"], apart := false, laid := [("unicode/utf8.acceptRanges", laid_unicode_utf8_acceptRanges), ("unicode/utf8.first", laid_unicode_utf8_first)] }
def PatternSameSaid : Prop := patternSameRow.holds Tryz.pinned (OpenSpec.ofChange patternSameSpec)

/-- ITS FALSE NEIGHBOUR: 'it returns false'. Refute it at one input. -/
def patternSameWrong : ChangeSpec := { name := "patternSame", fn := fun _ => fun
  | [d1, d2] => { results := [.lit (.bool false)], args := [d1, d2] }
  | _ => none }
def PatternSameWrongFalsely : Prop := patternSameRow.holds Tryz.pinned (OpenSpec.ofChange patternSameWrong)

/-- 'abacistlaw11.LocaleAround': WHATEVER THE INPUT: true; the input reads as it did. -/
def localeAroundSpec : ChangeSpec := { name := "localeAround", fn := fun _ => fun
  | [d1, d2] => { results := [.lit (.bool true)], args := [d1, d2] }
  | _ => none }
def localeAroundRow : OpenClaim := { program := "ytdkjkbbibdppoaagreatdoor", sum := "18be6210965d5b4cda83b5c940f04a74cc2a410620e1524b726fab9b1a9fadf0", func := "abacist/abacistlaw11.LocaleAround", spec := "localeAround", inPlace := ["internal/bytealg.IndexByteString", "internal/bytealg.IndexString", "internal/bytealg.CountString", "internal/abi.NoEscape", "internal/bytealg.MakeNoZero"], unfollowed := true, recurses := true, named := ["internal/bytealg.MaxLen", "unicode/utf8.first", "unicode/utf8.acceptRanges"], apart := false, laid := [("unicode/utf8.acceptRanges", laid_unicode_utf8_acceptRanges), ("unicode/utf8.first", laid_unicode_utf8_first)] }
def LocaleAroundSaid : Prop := localeAroundRow.holds Tryz.pinned (OpenSpec.ofChange localeAroundSpec)

/-- ITS FALSE NEIGHBOUR: 'it returns false'. Refute it at one input. -/
def localeAroundWrong : ChangeSpec := { name := "localeAround", fn := fun _ => fun
  | [d1, d2] => { results := [.lit (.bool false)], args := [d1, d2] }
  | _ => none }
def LocaleAroundWrongFalsely : Prop := localeAroundRow.holds Tryz.pinned (OpenSpec.ofChange localeAroundWrong)

/-- 'abacistlaw11.LocaleWords': WHATEVER THE INPUT: true; the input reads as it did. -/
def localeWordsSpec : ChangeSpec := { name := "localeWords", fn := fun _ => fun
  | [d1, d2] => { results := [.lit (.bool true)], args := [d1, d2] }
  | _ => none }
def localeWordsRow : OpenClaim := { program := "ytdkjkbbibdppoaagreatdoor", sum := "18be6210965d5b4cda83b5c940f04a74cc2a410620e1524b726fab9b1a9fadf0", func := "abacist/abacistlaw11.LocaleWords", spec := "localeWords", inPlace := ["internal/bytealg.IndexByteString", "internal/bytealg.IndexString", "internal/bytealg.CountString", "internal/abi.NoEscape", "internal/bytealg.MakeNoZero"], unfollowed := true, recurses := true, named := ["unicode/utf8.first", "unicode/utf8.acceptRanges", "internal/bytealg.MaxLen"], apart := false, laid := [("unicode/utf8.acceptRanges", laid_unicode_utf8_acceptRanges), ("unicode/utf8.first", laid_unicode_utf8_first)] }
def LocaleWordsSaid : Prop := localeWordsRow.holds Tryz.pinned (OpenSpec.ofChange localeWordsSpec)

/-- ITS FALSE NEIGHBOUR: 'it returns false'. Refute it at one input. -/
def localeWordsWrong : ChangeSpec := { name := "localeWords", fn := fun _ => fun
  | [d1, d2] => { results := [.lit (.bool false)], args := [d1, d2] }
  | _ => none }
def LocaleWordsWrongFalsely : Prop := localeWordsRow.holds Tryz.pinned (OpenSpec.ofChange localeWordsWrong)

/-- 'abacistlaw11.LocaleSigns': WHATEVER THE INPUT: true; the input reads as it did. -/
def localeSignsSpec : ChangeSpec := { name := "localeSigns", fn := fun _ => fun
  | [d1, d2, d3] => { results := [.lit (.bool true)], args := [d1, d2, d3] }
  | _ => none }
def localeSignsRow : OpenClaim := { program := "ytdkjkbbibdppoaagreatdoor", sum := "18be6210965d5b4cda83b5c940f04a74cc2a410620e1524b726fab9b1a9fadf0", func := "abacist/abacistlaw11.LocaleSigns", spec := "localeSigns", inPlace := ["internal/bytealg.IndexByteString", "internal/bytealg.IndexString", "internal/bytealg.CountString", "internal/abi.NoEscape", "internal/bytealg.MakeNoZero"], unfollowed := true, recurses := true, named := ["internal/bytealg.MaxLen", "unicode/utf8.first", "unicode/utf8.acceptRanges"], apart := false, laid := [("unicode/utf8.acceptRanges", laid_unicode_utf8_acceptRanges), ("unicode/utf8.first", laid_unicode_utf8_first)] }
def LocaleSignsSaid : Prop := localeSignsRow.holds Tryz.pinned (OpenSpec.ofChange localeSignsSpec)

/-- ITS FALSE NEIGHBOUR: 'it returns false'. Refute it at one input. -/
def localeSignsWrong : ChangeSpec := { name := "localeSigns", fn := fun _ => fun
  | [d1, d2, d3] => { results := [.lit (.bool false)], args := [d1, d2, d3] }
  | _ => none }
def LocaleSignsWrongFalsely : Prop := localeSignsRow.holds Tryz.pinned (OpenSpec.ofChange localeSignsWrong)

/-- 'abacistlaw11.LocaleApart': WHATEVER THE INPUT: true; the input reads as it did. -/
def localeApartSpec : ChangeSpec := { name := "localeApart", fn := fun _ => fun
  | [d1, d2, d3] => { results := [.lit (.bool true)], args := [d1, d2, d3] }
  | _ => none }
def localeApartRow : OpenClaim := { program := "ytdkjkbbibdppoaagreatdoor", sum := "18be6210965d5b4cda83b5c940f04a74cc2a410620e1524b726fab9b1a9fadf0", func := "abacist/abacistlaw11.LocaleApart", spec := "localeApart", inPlace := ["internal/bytealg.IndexByteString", "internal/bytealg.IndexString", "internal/bytealg.CountString", "internal/abi.NoEscape", "internal/bytealg.MakeNoZero"], unfollowed := true, recurses := true, named := ["internal/bytealg.MaxLen", "unicode/utf8.first", "unicode/utf8.acceptRanges"], apart := false, laid := [("unicode/utf8.acceptRanges", laid_unicode_utf8_acceptRanges), ("unicode/utf8.first", laid_unicode_utf8_first)] }
def LocaleApartSaid : Prop := localeApartRow.holds Tryz.pinned (OpenSpec.ofChange localeApartSpec)

/-- ITS FALSE NEIGHBOUR: 'it returns false'. Refute it at one input. -/
def localeApartWrong : ChangeSpec := { name := "localeApart", fn := fun _ => fun
  | [d1, d2, d3] => { results := [.lit (.bool false)], args := [d1, d2, d3] }
  | _ => none }
def LocaleApartWrongFalsely : Prop := localeApartRow.holds Tryz.pinned (OpenSpec.ofChange localeApartWrong)

/-- 'abacistlaw11.LocaleTold': WHATEVER THE INPUT: true; the input reads as it did. -/
def localeToldSpec : ChangeSpec := { name := "localeTold", fn := fun _ => fun
  | [d1, d2] => { results := [.lit (.bool true)], args := [d1, d2] }
  | _ => none }
def localeToldRow : OpenClaim := { program := "ytdkjkbbibdppoaagreatdoor", sum := "18be6210965d5b4cda83b5c940f04a74cc2a410620e1524b726fab9b1a9fadf0", func := "abacist/abacistlaw11.LocaleTold", spec := "localeTold", inPlace := ["internal/bytealg.IndexByteString", "internal/bytealg.IndexString", "internal/bytealg.CountString", "internal/abi.NoEscape", "internal/bytealg.MakeNoZero"], unfollowed := true, recurses := true, named := ["internal/bytealg.MaxLen", "unicode/utf8.first", "unicode/utf8.acceptRanges"], apart := false, laid := [("unicode/utf8.acceptRanges", laid_unicode_utf8_acceptRanges), ("unicode/utf8.first", laid_unicode_utf8_first)] }
def LocaleToldSaid : Prop := localeToldRow.holds Tryz.pinned (OpenSpec.ofChange localeToldSpec)

/-- ITS FALSE NEIGHBOUR: 'it returns false'. Refute it at one input. -/
def localeToldWrong : ChangeSpec := { name := "localeTold", fn := fun _ => fun
  | [d1, d2] => { results := [.lit (.bool false)], args := [d1, d2] }
  | _ => none }
def LocaleToldWrongFalsely : Prop := localeToldRow.holds Tryz.pinned (OpenSpec.ofChange localeToldWrong)

/-- 'abacistlaw12.FortyNone': WHATEVER THE INPUT: true; the input reads as it did. -/
def fortyNoneSpec : ChangeSpec := { name := "fortyNone", fn := fun _ => fun
  | [d] => { results := [.lit (.bool true)], args := [d] }
  | _ => none }
def fortyNoneRow : OpenClaim := { program := "ytdkjkbbibdppoaagreatdoor", sum := "18be6210965d5b4cda83b5c940f04a74cc2a410620e1524b726fab9b1a9fadf0", func := "abacist/abacistlaw12.FortyNone", spec := "fortyNone", inPlace := ["internal/bytealg.IndexByteString", "internal/bytealg.IndexString", "internal/bytealg.CountString", "internal/abi.NoEscape", "internal/bytealg.MakeNoZero"], unfollowed := true, recurses := true, named := ["internal/bytealg.MaxLen", "unicode/utf8.first", "unicode/utf8.acceptRanges"], apart := false, laid := [("unicode/utf8.acceptRanges", laid_unicode_utf8_acceptRanges), ("unicode/utf8.first", laid_unicode_utf8_first)] }
def FortyNoneSaid : Prop := fortyNoneRow.holds Tryz.pinned (OpenSpec.ofChange fortyNoneSpec)

/-- ITS FALSE NEIGHBOUR: 'it returns false'. Refute it at one input. -/
def fortyNoneWrong : ChangeSpec := { name := "fortyNone", fn := fun _ => fun
  | [d] => { results := [.lit (.bool false)], args := [d] }
  | _ => none }
def FortyNoneWrongFalsely : Prop := fortyNoneRow.holds Tryz.pinned (OpenSpec.ofChange fortyNoneWrong)

/-- 'abacistlaw12.FortyMay': WHATEVER THE INPUT: true; the input reads as it did. -/
def fortyMaySpec : ChangeSpec := { name := "fortyMay", fn := fun _ => fun
  | [d] => { results := [.lit (.bool true)], args := [d] }
  | _ => none }
def fortyMayRow : OpenClaim := { program := "ytdkjkbbibdppoaagreatdoor", sum := "18be6210965d5b4cda83b5c940f04a74cc2a410620e1524b726fab9b1a9fadf0", func := "abacist/abacistlaw12.FortyMay", spec := "fortyMay", inPlace := ["internal/bytealg.IndexByteString", "internal/bytealg.IndexString", "internal/bytealg.CountString", "internal/abi.NoEscape", "internal/bytealg.MakeNoZero"], unfollowed := true, recurses := true, named := ["internal/bytealg.MaxLen", "unicode/utf8.first", "unicode/utf8.acceptRanges"], apart := false, laid := [("unicode/utf8.acceptRanges", laid_unicode_utf8_acceptRanges), ("unicode/utf8.first", laid_unicode_utf8_first)] }
def FortyMaySaid : Prop := fortyMayRow.holds Tryz.pinned (OpenSpec.ofChange fortyMaySpec)

/-- ITS FALSE NEIGHBOUR: 'it returns false'. Refute it at one input. -/
def fortyMayWrong : ChangeSpec := { name := "fortyMay", fn := fun _ => fun
  | [d] => { results := [.lit (.bool false)], args := [d] }
  | _ => none }
def FortyMayWrongFalsely : Prop := fortyMayRow.holds Tryz.pinned (OpenSpec.ofChange fortyMayWrong)

/- THE SECOND FORM. 'bulk': how many values and letters a reading holds, each counted each time it is reached (what is shared counts as often as it is met; a slice's spare places count too). A statement '..UptoSaid' is the law's where the arguments, and the package variables that the reading takes, are together of bulk at most 1048576: NARROWER than '..Said'. Prove '..Said' where nothing that the law and all that it calls make is longer than what came in: it says more and counts as full. Else prove '..UptoSaid'. A law counts once. -/
mutual
def uptoBulk {H : Type} : DataW H → Nat
  | .lit (.string bytes) => bytes.length + 1
  | .lit _ => 1
  | .nil => 1
  | .ptr d => uptoBulk d + 1
  | .slice elems spare => uptoBulkAll elems + uptoBulkAll spare + 1
  | .agg parts => uptoBulkAll parts + 1
  | .iface _ d => uptoBulk d + 1
  | .map entries => uptoBulkEntries entries + 1
  | .held _ => 1
def uptoBulkAll {H : Type} : List (DataW H) → Nat
  | [] => 0
  | d :: r => uptoBulk d + uptoBulkAll r
def uptoBulkEntries {H : Type} : List (Lit × DataW H) → Nat
  | [] => 0
  | x :: r => uptoBulkEntry x + uptoBulkEntries r
def uptoBulkEntry {H : Type} : Lit × DataW H → Nat
  | (.string bytes, d) => bytes.length + uptoBulk d + 1
  | (_, d) => uptoBulk d + 1
 end
def uptoSmall : (H : Type) → List (DataW H) → Bool := fun _ ds => decide (uptoBulkAll ds ≤ 1048576)
def OpenSpec.upto (s : _root_.Go.ChangeSpec) : _root_.Go.OpenSpec := { _root_.Go.OpenSpec.ofChange s with cond := some uptoSmall }

/-- 'abacistlaw10.PatternSame', WHERE WHAT IT READS IS OF BULK AT MOST 1048576: true; the input reads as it did. -/
def patternSameUptoRow : OpenClaim := { program := "ytdkjkbbibdppoaagreatdoor", sum := "18be6210965d5b4cda83b5c940f04a74cc2a410620e1524b726fab9b1a9fadf0", func := "abacist/abacistlaw10.PatternSame", spec := "patternSame", inPlace := ["internal/bytealg.IndexByteString", "internal/bytealg.IndexString", "internal/bytealg.CountString", "internal/abi.NoEscape", "internal/bytealg.MakeNoZero"], unfollowed := true, recurses := true, named := ["internal/bytealg.MaxLen", "unicode/utf8.first", "unicode/utf8.acceptRanges"], apart := false, laid := [("unicode/utf8.acceptRanges", laid_unicode_utf8_acceptRanges), ("unicode/utf8.first", laid_unicode_utf8_first)], narrowed := true }
def PatternSameUptoSaid : Prop := patternSameUptoRow.holds Tryz.pinned (OpenSpec.upto patternSameSpec)

/-- 'abacistlaw11.LocaleAround', WHERE WHAT IT READS IS OF BULK AT MOST 1048576: true; the input reads as it did. -/
def localeAroundUptoRow : OpenClaim := { program := "ytdkjkbbibdppoaagreatdoor", sum := "18be6210965d5b4cda83b5c940f04a74cc2a410620e1524b726fab9b1a9fadf0", func := "abacist/abacistlaw11.LocaleAround", spec := "localeAround", inPlace := ["internal/bytealg.IndexByteString", "internal/bytealg.IndexString", "internal/bytealg.CountString", "internal/abi.NoEscape", "internal/bytealg.MakeNoZero"], unfollowed := true, recurses := true, named := ["internal/bytealg.MaxLen", "unicode/utf8.first", "unicode/utf8.acceptRanges"], apart := false, laid := [("unicode/utf8.acceptRanges", laid_unicode_utf8_acceptRanges), ("unicode/utf8.first", laid_unicode_utf8_first)], narrowed := true }
def LocaleAroundUptoSaid : Prop := localeAroundUptoRow.holds Tryz.pinned (OpenSpec.upto localeAroundSpec)

/-- 'abacistlaw11.LocaleWords', WHERE WHAT IT READS IS OF BULK AT MOST 1048576: true; the input reads as it did. -/
def localeWordsUptoRow : OpenClaim := { program := "ytdkjkbbibdppoaagreatdoor", sum := "18be6210965d5b4cda83b5c940f04a74cc2a410620e1524b726fab9b1a9fadf0", func := "abacist/abacistlaw11.LocaleWords", spec := "localeWords", inPlace := ["internal/bytealg.IndexByteString", "internal/bytealg.IndexString", "internal/bytealg.CountString", "internal/abi.NoEscape", "internal/bytealg.MakeNoZero"], unfollowed := true, recurses := true, named := ["unicode/utf8.first", "unicode/utf8.acceptRanges", "internal/bytealg.MaxLen"], apart := false, laid := [("unicode/utf8.acceptRanges", laid_unicode_utf8_acceptRanges), ("unicode/utf8.first", laid_unicode_utf8_first)], narrowed := true }
def LocaleWordsUptoSaid : Prop := localeWordsUptoRow.holds Tryz.pinned (OpenSpec.upto localeWordsSpec)

/-- 'abacistlaw11.LocaleSigns', WHERE WHAT IT READS IS OF BULK AT MOST 1048576: true; the input reads as it did. -/
def localeSignsUptoRow : OpenClaim := { program := "ytdkjkbbibdppoaagreatdoor", sum := "18be6210965d5b4cda83b5c940f04a74cc2a410620e1524b726fab9b1a9fadf0", func := "abacist/abacistlaw11.LocaleSigns", spec := "localeSigns", inPlace := ["internal/bytealg.IndexByteString", "internal/bytealg.IndexString", "internal/bytealg.CountString", "internal/abi.NoEscape", "internal/bytealg.MakeNoZero"], unfollowed := true, recurses := true, named := ["internal/bytealg.MaxLen", "unicode/utf8.first", "unicode/utf8.acceptRanges"], apart := false, laid := [("unicode/utf8.acceptRanges", laid_unicode_utf8_acceptRanges), ("unicode/utf8.first", laid_unicode_utf8_first)], narrowed := true }
def LocaleSignsUptoSaid : Prop := localeSignsUptoRow.holds Tryz.pinned (OpenSpec.upto localeSignsSpec)

/-- 'abacistlaw11.LocaleApart', WHERE WHAT IT READS IS OF BULK AT MOST 1048576: true; the input reads as it did. -/
def localeApartUptoRow : OpenClaim := { program := "ytdkjkbbibdppoaagreatdoor", sum := "18be6210965d5b4cda83b5c940f04a74cc2a410620e1524b726fab9b1a9fadf0", func := "abacist/abacistlaw11.LocaleApart", spec := "localeApart", inPlace := ["internal/bytealg.IndexByteString", "internal/bytealg.IndexString", "internal/bytealg.CountString", "internal/abi.NoEscape", "internal/bytealg.MakeNoZero"], unfollowed := true, recurses := true, named := ["internal/bytealg.MaxLen", "unicode/utf8.first", "unicode/utf8.acceptRanges"], apart := false, laid := [("unicode/utf8.acceptRanges", laid_unicode_utf8_acceptRanges), ("unicode/utf8.first", laid_unicode_utf8_first)], narrowed := true }
def LocaleApartUptoSaid : Prop := localeApartUptoRow.holds Tryz.pinned (OpenSpec.upto localeApartSpec)

/-- 'abacistlaw11.LocaleTold', WHERE WHAT IT READS IS OF BULK AT MOST 1048576: true; the input reads as it did. -/
def localeToldUptoRow : OpenClaim := { program := "ytdkjkbbibdppoaagreatdoor", sum := "18be6210965d5b4cda83b5c940f04a74cc2a410620e1524b726fab9b1a9fadf0", func := "abacist/abacistlaw11.LocaleTold", spec := "localeTold", inPlace := ["internal/bytealg.IndexByteString", "internal/bytealg.IndexString", "internal/bytealg.CountString", "internal/abi.NoEscape", "internal/bytealg.MakeNoZero"], unfollowed := true, recurses := true, named := ["internal/bytealg.MaxLen", "unicode/utf8.first", "unicode/utf8.acceptRanges"], apart := false, laid := [("unicode/utf8.acceptRanges", laid_unicode_utf8_acceptRanges), ("unicode/utf8.first", laid_unicode_utf8_first)], narrowed := true }
def LocaleToldUptoSaid : Prop := localeToldUptoRow.holds Tryz.pinned (OpenSpec.upto localeToldSpec)

/-- 'abacistlaw12.FortyNone', WHERE WHAT IT READS IS OF BULK AT MOST 1048576: true; the input reads as it did. -/
def fortyNoneUptoRow : OpenClaim := { program := "ytdkjkbbibdppoaagreatdoor", sum := "18be6210965d5b4cda83b5c940f04a74cc2a410620e1524b726fab9b1a9fadf0", func := "abacist/abacistlaw12.FortyNone", spec := "fortyNone", inPlace := ["internal/bytealg.IndexByteString", "internal/bytealg.IndexString", "internal/bytealg.CountString", "internal/abi.NoEscape", "internal/bytealg.MakeNoZero"], unfollowed := true, recurses := true, named := ["internal/bytealg.MaxLen", "unicode/utf8.first", "unicode/utf8.acceptRanges"], apart := false, laid := [("unicode/utf8.acceptRanges", laid_unicode_utf8_acceptRanges), ("unicode/utf8.first", laid_unicode_utf8_first)], narrowed := true }
def FortyNoneUptoSaid : Prop := fortyNoneUptoRow.holds Tryz.pinned (OpenSpec.upto fortyNoneSpec)

/-- 'abacistlaw12.FortyMay', WHERE WHAT IT READS IS OF BULK AT MOST 1048576: true; the input reads as it did. -/
def fortyMayUptoRow : OpenClaim := { program := "ytdkjkbbibdppoaagreatdoor", sum := "18be6210965d5b4cda83b5c940f04a74cc2a410620e1524b726fab9b1a9fadf0", func := "abacist/abacistlaw12.FortyMay", spec := "fortyMay", inPlace := ["internal/bytealg.IndexByteString", "internal/bytealg.IndexString", "internal/bytealg.CountString", "internal/abi.NoEscape", "internal/bytealg.MakeNoZero"], unfollowed := true, recurses := true, named := ["internal/bytealg.MaxLen", "unicode/utf8.first", "unicode/utf8.acceptRanges"], apart := false, laid := [("unicode/utf8.acceptRanges", laid_unicode_utf8_acceptRanges), ("unicode/utf8.first", laid_unicode_utf8_first)], narrowed := true }
def FortyMayUptoSaid : Prop := fortyMayUptoRow.holds Tryz.pinned (OpenSpec.upto fortyMaySpec)

end Rows
end Go.Proofs.YtdkjkbbibdppoaaGreatDoor
