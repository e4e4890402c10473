/-
  NARROWER THAN 'FOR EVERY INPUT', by the rows' own cells (each row's printed sentence says how): ItemSigns: laid · ItemAtoms: laid · ItemAll: laid · ItemGroups: laid · ItemClusters: laid · ViewStops: laid · ViewSlices: laid · ViewBack: laid · ViewLegal: laid · ViewBounds: laid · ViewNear: laid.
  DERIVED. THE GIVEN ROWS OF THIS SEAT. 11 by the template 'for every input the law returns true; each argument reads behind the call as it read before'; 0 by the template 'total and deterministic' (their statements: YthoicieckodneaaGreatDoorTotals.lean).
  GIVEN WITH THE SEED: the statements are not yours to turn. If you find one false, say at which input.
  Laid BY PROGRAM, IN A SANDBOX (cutbox-rows.mjs): the forced cells as the released guide's own fill.sh prints them over the translation c1bc87df3a06e8f9… (all of the seat's roots in one cut). By AI agents, Wed Nov 11 2026. No macro, syntax, notation, axiom, sorry.
-/
import Derived.Test.YthoicieckodneaaGreatDoorChecked
import GoSem.PinnedTables
import GoSem.Claim
import GoSem.ClaimJoined
import GoSem.ClaimMapViews
import Derived.JoinedTies
import Derived.KernelRfl
namespace Go.Proofs.YthoicieckodneaaGreatDoor
/- THE CELL 'sum', in the pinned program and in every row, IS THE sha256 OF THE DUMP (.gsa) THAT YthoicieckodneaaGreatDoorProg.lean LOADS. Nothing in Lean hashes anything: it is a label: what it is worth is what the hold of that sum in a sandbox is worth. -/
noncomputable def Tryz.pinned : Pinned := { name := "ythoicieckodneaagreatdoor", sum := "c1bc87df3a06e8f9034e715d6271e0bd97eb2b08f20dd54d931042b4aac39ac2", checked := Tryz.checked }
namespace Rows
def none {H : Type} : Left H := { results := [], args := [] }

/- WHAT THE LISTED PACKAGE-LEVEL VARIABLES READ AS WHEN THE CALL BEGINS. Each datum BY PROGRAM (the guide's laid-datum.mjs) off the statement by which the dump's own 'gosem.cut.vars' lays the variable. In a bare row this is a premise. The card (YthoicieckodneaaGreatDoorCards.lean) ties it to the program's text. -/
def laid_unicode_utf8_acceptRanges {H : Type} : DataW H := .agg [.agg [.lit (.int .u8 128), .lit (.int .u8 191)], .agg [.lit (.int .u8 160), .lit (.int .u8 191)], .agg [.lit (.int .u8 128), .lit (.int .u8 159)], .agg [.lit (.int .u8 144), .lit (.int .u8 191)], .agg [.lit (.int .u8 128), .lit (.int .u8 143)], .agg [.lit (.int .u8 0), .lit (.int .u8 0)], .agg [.lit (.int .u8 0), .lit (.int .u8 0)], .agg [.lit (.int .u8 0), .lit (.int .u8 0)], .agg [.lit (.int .u8 0), .lit (.int .u8 0)], .agg [.lit (.int .u8 0), .lit (.int .u8 0)], .agg [.lit (.int .u8 0), .lit (.int .u8 0)], .agg [.lit (.int .u8 0), .lit (.int .u8 0)], .agg [.lit (.int .u8 0), .lit (.int .u8 0)], .agg [.lit (.int .u8 0), .lit (.int .u8 0)], .agg [.lit (.int .u8 0), .lit (.int .u8 0)], .agg [.lit (.int .u8 0), .lit (.int .u8 0)]]
/-- One of Go's own tables, pinned by name: the form's constant. -/
def laid_unicode_utf8_first : DataW Unit := Go.Pinned.utf8First

/-- 'abacistlaw15.ItemSigns': WHATEVER THE INPUT: true; the input reads as it did. -/
def itemSignsSpec : ChangeSpec := { name := "itemSigns", fn := fun _ => fun
  | [d1, d2, d3] => { results := [.lit (.bool true)], args := [d1, d2, d3] }
  | _ => none }
def itemSignsRow : OpenClaim := { program := "ythoicieckodneaagreatdoor", sum := "c1bc87df3a06e8f9034e715d6271e0bd97eb2b08f20dd54d931042b4aac39ac2", func := "abacist/abacistlaw15.ItemSigns", spec := "itemSigns", inPlace := ["internal/bytealg.IndexByteString", "internal/bytealg.IndexString", "internal/bytealg.CountString", "internal/abi.NoEscape", "internal/bytealg.MakeNoZero"], unfollowed := true, recurses := true, named := ["internal/bytealg.MaxLen", "unicode/utf8.first", "unicode/utf8.acceptRanges"], apart := false, laid := [("unicode/utf8.acceptRanges", laid_unicode_utf8_acceptRanges), ("unicode/utf8.first", laid_unicode_utf8_first)] }
def ItemSignsSaid : Prop := itemSignsRow.holds Tryz.pinned (OpenSpec.ofChange itemSignsSpec)

/-- ITS FALSE NEIGHBOUR: 'it returns false'. Refute it at one input. -/
def itemSignsWrong : ChangeSpec := { name := "itemSigns", fn := fun _ => fun
  | [d1, d2, d3] => { results := [.lit (.bool false)], args := [d1, d2, d3] }
  | _ => none }
def ItemSignsWrongFalsely : Prop := itemSignsRow.holds Tryz.pinned (OpenSpec.ofChange itemSignsWrong)

/-- 'abacistlaw15.ItemAtoms': WHATEVER THE INPUT: true; the input reads as it did. -/
def itemAtomsSpec : ChangeSpec := { name := "itemAtoms", fn := fun _ => fun
  | [d1, d2, d3] => { results := [.lit (.bool true)], args := [d1, d2, d3] }
  | _ => none }
def itemAtomsRow : OpenClaim := { program := "ythoicieckodneaagreatdoor", sum := "c1bc87df3a06e8f9034e715d6271e0bd97eb2b08f20dd54d931042b4aac39ac2", func := "abacist/abacistlaw15.ItemAtoms", spec := "itemAtoms", inPlace := ["internal/bytealg.IndexByteString", "internal/bytealg.IndexString", "internal/bytealg.CountString", "internal/abi.NoEscape", "internal/bytealg.MakeNoZero"], unfollowed := true, recurses := true, named := ["internal/bytealg.MaxLen", "unicode/utf8.first", "unicode/utf8.acceptRanges"], apart := false, laid := [("unicode/utf8.acceptRanges", laid_unicode_utf8_acceptRanges), ("unicode/utf8.first", laid_unicode_utf8_first)] }
def ItemAtomsSaid : Prop := itemAtomsRow.holds Tryz.pinned (OpenSpec.ofChange itemAtomsSpec)

/-- ITS FALSE NEIGHBOUR: 'it returns false'. Refute it at one input. -/
def itemAtomsWrong : ChangeSpec := { name := "itemAtoms", fn := fun _ => fun
  | [d1, d2, d3] => { results := [.lit (.bool false)], args := [d1, d2, d3] }
  | _ => none }
def ItemAtomsWrongFalsely : Prop := itemAtomsRow.holds Tryz.pinned (OpenSpec.ofChange itemAtomsWrong)

/-- 'abacistlaw15.ItemAll': WHATEVER THE INPUT: true; the input reads as it did. -/
def itemAllSpec : ChangeSpec := { name := "itemAll", fn := fun _ => fun
  | [d1, d2, d3] => { results := [.lit (.bool true)], args := [d1, d2, d3] }
  | _ => none }
def itemAllRow : OpenClaim := { program := "ythoicieckodneaagreatdoor", sum := "c1bc87df3a06e8f9034e715d6271e0bd97eb2b08f20dd54d931042b4aac39ac2", func := "abacist/abacistlaw15.ItemAll", spec := "itemAll", inPlace := ["internal/bytealg.IndexByteString", "internal/bytealg.IndexString", "internal/bytealg.CountString", "internal/abi.NoEscape", "internal/bytealg.MakeNoZero"], unfollowed := true, recurses := true, named := ["internal/bytealg.MaxLen", "unicode/utf8.first", "unicode/utf8.acceptRanges"], apart := false, laid := [("unicode/utf8.acceptRanges", laid_unicode_utf8_acceptRanges), ("unicode/utf8.first", laid_unicode_utf8_first)] }
def ItemAllSaid : Prop := itemAllRow.holds Tryz.pinned (OpenSpec.ofChange itemAllSpec)

/-- ITS FALSE NEIGHBOUR: 'it returns false'. Refute it at one input. -/
def itemAllWrong : ChangeSpec := { name := "itemAll", fn := fun _ => fun
  | [d1, d2, d3] => { results := [.lit (.bool false)], args := [d1, d2, d3] }
  | _ => none }
def ItemAllWrongFalsely : Prop := itemAllRow.holds Tryz.pinned (OpenSpec.ofChange itemAllWrong)

/-- 'abacistlaw15.ItemGroups': WHATEVER THE INPUT: true; the input reads as it did. -/
def itemGroupsSpec : ChangeSpec := { name := "itemGroups", fn := fun _ => fun
  | [d1, d2, d3] => { results := [.lit (.bool true)], args := [d1, d2, d3] }
  | _ => none }
def itemGroupsRow : OpenClaim := { program := "ythoicieckodneaagreatdoor", sum := "c1bc87df3a06e8f9034e715d6271e0bd97eb2b08f20dd54d931042b4aac39ac2", func := "abacist/abacistlaw15.ItemGroups", spec := "itemGroups", inPlace := ["internal/bytealg.IndexByteString", "internal/bytealg.IndexString", "internal/bytealg.CountString", "internal/abi.NoEscape", "internal/bytealg.MakeNoZero"], unfollowed := true, recurses := true, named := ["internal/bytealg.MaxLen", "unicode/utf8.first", "unicode/utf8.acceptRanges"], apart := false, laid := [("unicode/utf8.acceptRanges", laid_unicode_utf8_acceptRanges), ("unicode/utf8.first", laid_unicode_utf8_first)] }
def ItemGroupsSaid : Prop := itemGroupsRow.holds Tryz.pinned (OpenSpec.ofChange itemGroupsSpec)

/-- ITS FALSE NEIGHBOUR: 'it returns false'. Refute it at one input. -/
def itemGroupsWrong : ChangeSpec := { name := "itemGroups", fn := fun _ => fun
  | [d1, d2, d3] => { results := [.lit (.bool false)], args := [d1, d2, d3] }
  | _ => none }
def ItemGroupsWrongFalsely : Prop := itemGroupsRow.holds Tryz.pinned (OpenSpec.ofChange itemGroupsWrong)

/-- 'abacistlaw15.ItemClusters': WHATEVER THE INPUT: true; the input reads as it did. -/
def itemClustersSpec : ChangeSpec := { name := "itemClusters", fn := fun _ => fun
  | [d1, d2, d3] => { results := [.lit (.bool true)], args := [d1, d2, d3] }
  | _ => none }
def itemClustersRow : OpenClaim := { program := "ythoicieckodneaagreatdoor", sum := "c1bc87df3a06e8f9034e715d6271e0bd97eb2b08f20dd54d931042b4aac39ac2", func := "abacist/abacistlaw15.ItemClusters", spec := "itemClusters", inPlace := ["internal/bytealg.IndexByteString", "internal/bytealg.IndexString", "internal/bytealg.CountString", "internal/abi.NoEscape", "internal/bytealg.MakeNoZero"], unfollowed := true, recurses := true, named := ["internal/bytealg.MaxLen", "unicode/utf8.first", "unicode/utf8.acceptRanges"], apart := false, laid := [("unicode/utf8.acceptRanges", laid_unicode_utf8_acceptRanges), ("unicode/utf8.first", laid_unicode_utf8_first)] }
def ItemClustersSaid : Prop := itemClustersRow.holds Tryz.pinned (OpenSpec.ofChange itemClustersSpec)

/-- ITS FALSE NEIGHBOUR: 'it returns false'. Refute it at one input. -/
def itemClustersWrong : ChangeSpec := { name := "itemClusters", fn := fun _ => fun
  | [d1, d2, d3] => { results := [.lit (.bool false)], args := [d1, d2, d3] }
  | _ => none }
def ItemClustersWrongFalsely : Prop := itemClustersRow.holds Tryz.pinned (OpenSpec.ofChange itemClustersWrong)

/-- 'abacistlaw16.ViewStops': WHATEVER THE INPUT: true; the input reads as it did. -/
def viewStopsSpec : ChangeSpec := { name := "viewStops", fn := fun _ => fun
  | [d1, d2, d3, d4] => { results := [.lit (.bool true)], args := [d1, d2, d3, d4] }
  | _ => none }
def viewStopsRow : OpenClaim := { program := "ythoicieckodneaagreatdoor", sum := "c1bc87df3a06e8f9034e715d6271e0bd97eb2b08f20dd54d931042b4aac39ac2", func := "abacist/abacistlaw16.ViewStops", spec := "viewStops", inPlace := ["internal/bytealg.IndexByteString", "internal/bytealg.IndexString", "internal/bytealg.CountString", "internal/abi.NoEscape", "internal/bytealg.MakeNoZero"], unfollowed := true, recurses := true, named := ["internal/bytealg.MaxLen", "unicode/utf8.first", "unicode/utf8.acceptRanges"], apart := false, laid := [("unicode/utf8.acceptRanges", laid_unicode_utf8_acceptRanges), ("unicode/utf8.first", laid_unicode_utf8_first)] }
def ViewStopsSaid : Prop := viewStopsRow.holds Tryz.pinned (OpenSpec.ofChange viewStopsSpec)

/-- ITS FALSE NEIGHBOUR: 'it returns false'. Refute it at one input. -/
def viewStopsWrong : ChangeSpec := { name := "viewStops", fn := fun _ => fun
  | [d1, d2, d3, d4] => { results := [.lit (.bool false)], args := [d1, d2, d3, d4] }
  | _ => none }
def ViewStopsWrongFalsely : Prop := viewStopsRow.holds Tryz.pinned (OpenSpec.ofChange viewStopsWrong)

/-- 'abacistlaw16.ViewSlices': WHATEVER THE INPUT: true; the input reads as it did. -/
def viewSlicesSpec : ChangeSpec := { name := "viewSlices", fn := fun _ => fun
  | [d1, d2, d3, d4, d5] => { results := [.lit (.bool true)], args := [d1, d2, d3, d4, d5] }
  | _ => none }
def viewSlicesRow : OpenClaim := { program := "ythoicieckodneaagreatdoor", sum := "c1bc87df3a06e8f9034e715d6271e0bd97eb2b08f20dd54d931042b4aac39ac2", func := "abacist/abacistlaw16.ViewSlices", spec := "viewSlices", inPlace := ["internal/bytealg.IndexByteString", "internal/bytealg.IndexString", "internal/bytealg.CountString", "internal/abi.NoEscape", "internal/bytealg.MakeNoZero"], unfollowed := true, recurses := true, named := ["internal/bytealg.MaxLen", "unicode/utf8.first", "unicode/utf8.acceptRanges"], apart := false, laid := [("unicode/utf8.acceptRanges", laid_unicode_utf8_acceptRanges), ("unicode/utf8.first", laid_unicode_utf8_first)] }
def ViewSlicesSaid : Prop := viewSlicesRow.holds Tryz.pinned (OpenSpec.ofChange viewSlicesSpec)

/-- ITS FALSE NEIGHBOUR: 'it returns false'. Refute it at one input. -/
def viewSlicesWrong : ChangeSpec := { name := "viewSlices", fn := fun _ => fun
  | [d1, d2, d3, d4, d5] => { results := [.lit (.bool false)], args := [d1, d2, d3, d4, d5] }
  | _ => none }
def ViewSlicesWrongFalsely : Prop := viewSlicesRow.holds Tryz.pinned (OpenSpec.ofChange viewSlicesWrong)

/-- 'abacistlaw16.ViewBack': WHATEVER THE INPUT: true; the input reads as it did. -/
def viewBackSpec : ChangeSpec := { name := "viewBack", fn := fun _ => fun
  | [d1, d2, d3] => { results := [.lit (.bool true)], args := [d1, d2, d3] }
  | _ => none }
def viewBackRow : OpenClaim := { program := "ythoicieckodneaagreatdoor", sum := "c1bc87df3a06e8f9034e715d6271e0bd97eb2b08f20dd54d931042b4aac39ac2", func := "abacist/abacistlaw16.ViewBack", spec := "viewBack", inPlace := ["internal/bytealg.IndexByteString", "internal/bytealg.IndexString", "internal/bytealg.CountString", "internal/abi.NoEscape", "internal/bytealg.MakeNoZero"], unfollowed := true, recurses := true, named := ["internal/bytealg.MaxLen", "unicode/utf8.first", "unicode/utf8.acceptRanges"], apart := false, laid := [("unicode/utf8.acceptRanges", laid_unicode_utf8_acceptRanges), ("unicode/utf8.first", laid_unicode_utf8_first)] }
def ViewBackSaid : Prop := viewBackRow.holds Tryz.pinned (OpenSpec.ofChange viewBackSpec)

/-- ITS FALSE NEIGHBOUR: 'it returns false'. Refute it at one input. -/
def viewBackWrong : ChangeSpec := { name := "viewBack", fn := fun _ => fun
  | [d1, d2, d3] => { results := [.lit (.bool false)], args := [d1, d2, d3] }
  | _ => none }
def ViewBackWrongFalsely : Prop := viewBackRow.holds Tryz.pinned (OpenSpec.ofChange viewBackWrong)

/-- 'abacistlaw16.ViewLegal': WHATEVER THE INPUT: true; the input reads as it did. -/
def viewLegalSpec : ChangeSpec := { name := "viewLegal", fn := fun _ => fun
  | [d1, d2, d3] => { results := [.lit (.bool true)], args := [d1, d2, d3] }
  | _ => none }
def viewLegalRow : OpenClaim := { program := "ythoicieckodneaagreatdoor", sum := "c1bc87df3a06e8f9034e715d6271e0bd97eb2b08f20dd54d931042b4aac39ac2", func := "abacist/abacistlaw16.ViewLegal", spec := "viewLegal", inPlace := ["internal/bytealg.IndexByteString", "internal/bytealg.IndexString", "internal/bytealg.CountString", "internal/abi.NoEscape", "internal/bytealg.MakeNoZero"], unfollowed := true, recurses := true, named := ["internal/bytealg.MaxLen", "unicode/utf8.first", "unicode/utf8.acceptRanges"], apart := false, laid := [("unicode/utf8.acceptRanges", laid_unicode_utf8_acceptRanges), ("unicode/utf8.first", laid_unicode_utf8_first)] }
def ViewLegalSaid : Prop := viewLegalRow.holds Tryz.pinned (OpenSpec.ofChange viewLegalSpec)

/-- ITS FALSE NEIGHBOUR: 'it returns false'. Refute it at one input. -/
def viewLegalWrong : ChangeSpec := { name := "viewLegal", fn := fun _ => fun
  | [d1, d2, d3] => { results := [.lit (.bool false)], args := [d1, d2, d3] }
  | _ => none }
def ViewLegalWrongFalsely : Prop := viewLegalRow.holds Tryz.pinned (OpenSpec.ofChange viewLegalWrong)

/-- 'abacistlaw16.ViewBounds': WHATEVER THE INPUT: true; the input reads as it did. -/
def viewBoundsSpec : ChangeSpec := { name := "viewBounds", fn := fun _ => fun
  | [d1, d2, d3, d4, d5] => { results := [.lit (.bool true)], args := [d1, d2, d3, d4, d5] }
  | _ => none }
def viewBoundsRow : OpenClaim := { program := "ythoicieckodneaagreatdoor", sum := "c1bc87df3a06e8f9034e715d6271e0bd97eb2b08f20dd54d931042b4aac39ac2", func := "abacist/abacistlaw16.ViewBounds", spec := "viewBounds", inPlace := ["internal/bytealg.IndexByteString", "internal/bytealg.IndexString", "internal/bytealg.CountString", "internal/abi.NoEscape", "internal/bytealg.MakeNoZero"], unfollowed := true, recurses := true, named := ["internal/bytealg.MaxLen", "unicode/utf8.first", "unicode/utf8.acceptRanges"], apart := false, laid := [("unicode/utf8.acceptRanges", laid_unicode_utf8_acceptRanges), ("unicode/utf8.first", laid_unicode_utf8_first)] }
def ViewBoundsSaid : Prop := viewBoundsRow.holds Tryz.pinned (OpenSpec.ofChange viewBoundsSpec)

/-- ITS FALSE NEIGHBOUR: 'it returns false'. Refute it at one input. -/
def viewBoundsWrong : ChangeSpec := { name := "viewBounds", fn := fun _ => fun
  | [d1, d2, d3, d4, d5] => { results := [.lit (.bool false)], args := [d1, d2, d3, d4, d5] }
  | _ => none }
def ViewBoundsWrongFalsely : Prop := viewBoundsRow.holds Tryz.pinned (OpenSpec.ofChange viewBoundsWrong)

/-- 'abacistlaw16.ViewNear': WHATEVER THE INPUT: true; the input reads as it did. -/
def viewNearSpec : ChangeSpec := { name := "viewNear", fn := fun _ => fun
  | [d1, d2, d3, d4] => { results := [.lit (.bool true)], args := [d1, d2, d3, d4] }
  | _ => none }
def viewNearRow : OpenClaim := { program := "ythoicieckodneaagreatdoor", sum := "c1bc87df3a06e8f9034e715d6271e0bd97eb2b08f20dd54d931042b4aac39ac2", func := "abacist/abacistlaw16.ViewNear", spec := "viewNear", inPlace := ["internal/bytealg.IndexByteString", "internal/bytealg.IndexString", "internal/bytealg.CountString", "internal/abi.NoEscape", "internal/bytealg.MakeNoZero"], unfollowed := true, recurses := true, named := ["internal/bytealg.MaxLen", "unicode/utf8.first", "unicode/utf8.acceptRanges"], apart := false, laid := [("unicode/utf8.acceptRanges", laid_unicode_utf8_acceptRanges), ("unicode/utf8.first", laid_unicode_utf8_first)] }
def ViewNearSaid : Prop := viewNearRow.holds Tryz.pinned (OpenSpec.ofChange viewNearSpec)

/-- ITS FALSE NEIGHBOUR: 'it returns false'. Refute it at one input. -/
def viewNearWrong : ChangeSpec := { name := "viewNear", fn := fun _ => fun
  | [d1, d2, d3, d4] => { results := [.lit (.bool false)], args := [d1, d2, d3, d4] }
  | _ => none }
def ViewNearWrongFalsely : Prop := viewNearRow.holds Tryz.pinned (OpenSpec.ofChange viewNearWrong)

/- THE SECOND FORM. 'bulk': how many values and letters a reading holds, each counted each time it is reached (what is shared counts as often as it is met; a slice's spare places count too). A statement '..UptoSaid' is the law's where the arguments, and the package variables that the reading takes, are together of bulk at most 1048576: NARROWER than '..Said'. Prove '..Said' where nothing that the law and all that it calls make is longer than what came in: it says more and counts as full. Else prove '..UptoSaid'. A law counts once. -/
mutual
def uptoBulk {H : Type} : DataW H → Nat
  | .lit (.string bytes) => bytes.length + 1
  | .lit _ => 1
  | .nil => 1
  | .ptr d => uptoBulk d + 1
  | .slice elems spare => uptoBulkAll elems + uptoBulkAll spare + 1
  | .agg parts => uptoBulkAll parts + 1
  | .iface _ d => uptoBulk d + 1
  | .map entries => uptoBulkEntries entries + 1
  | .held _ => 1
def uptoBulkAll {H : Type} : List (DataW H) → Nat
  | [] => 0
  | d :: r => uptoBulk d + uptoBulkAll r
def uptoBulkEntries {H : Type} : List (Lit × DataW H) → Nat
  | [] => 0
  | x :: r => uptoBulkEntry x + uptoBulkEntries r
def uptoBulkEntry {H : Type} : Lit × DataW H → Nat
  | (.string bytes, d) => bytes.length + uptoBulk d + 1
  | (_, d) => uptoBulk d + 1
 end
def uptoSmall : (H : Type) → List (DataW H) → Bool := fun _ ds => decide (uptoBulkAll ds ≤ 1048576)
def OpenSpec.upto (s : _root_.Go.ChangeSpec) : _root_.Go.OpenSpec := { _root_.Go.OpenSpec.ofChange s with cond := some uptoSmall }

/-- 'abacistlaw15.ItemSigns', WHERE WHAT IT READS IS OF BULK AT MOST 1048576: true; the input reads as it did. -/
def itemSignsUptoRow : OpenClaim := { program := "ythoicieckodneaagreatdoor", sum := "c1bc87df3a06e8f9034e715d6271e0bd97eb2b08f20dd54d931042b4aac39ac2", func := "abacist/abacistlaw15.ItemSigns", spec := "itemSigns", inPlace := ["internal/bytealg.IndexByteString", "internal/bytealg.IndexString", "internal/bytealg.CountString", "internal/abi.NoEscape", "internal/bytealg.MakeNoZero"], unfollowed := true, recurses := true, named := ["internal/bytealg.MaxLen", "unicode/utf8.first", "unicode/utf8.acceptRanges"], apart := false, laid := [("unicode/utf8.acceptRanges", laid_unicode_utf8_acceptRanges), ("unicode/utf8.first", laid_unicode_utf8_first)], narrowed := true }
def ItemSignsUptoSaid : Prop := itemSignsUptoRow.holds Tryz.pinned (OpenSpec.upto itemSignsSpec)

/-- 'abacistlaw15.ItemAtoms', WHERE WHAT IT READS IS OF BULK AT MOST 1048576: true; the input reads as it did. -/
def itemAtomsUptoRow : OpenClaim := { program := "ythoicieckodneaagreatdoor", sum := "c1bc87df3a06e8f9034e715d6271e0bd97eb2b08f20dd54d931042b4aac39ac2", func := "abacist/abacistlaw15.ItemAtoms", spec := "itemAtoms", inPlace := ["internal/bytealg.IndexByteString", "internal/bytealg.IndexString", "internal/bytealg.CountString", "internal/abi.NoEscape", "internal/bytealg.MakeNoZero"], unfollowed := true, recurses := true, named := ["internal/bytealg.MaxLen", "unicode/utf8.first", "unicode/utf8.acceptRanges"], apart := false, laid := [("unicode/utf8.acceptRanges", laid_unicode_utf8_acceptRanges), ("unicode/utf8.first", laid_unicode_utf8_first)], narrowed := true }
def ItemAtomsUptoSaid : Prop := itemAtomsUptoRow.holds Tryz.pinned (OpenSpec.upto itemAtomsSpec)

/-- 'abacistlaw15.ItemAll', WHERE WHAT IT READS IS OF BULK AT MOST 1048576: true; the input reads as it did. -/
def itemAllUptoRow : OpenClaim := { program := "ythoicieckodneaagreatdoor", sum := "c1bc87df3a06e8f9034e715d6271e0bd97eb2b08f20dd54d931042b4aac39ac2", func := "abacist/abacistlaw15.ItemAll", spec := "itemAll", inPlace := ["internal/bytealg.IndexByteString", "internal/bytealg.IndexString", "internal/bytealg.CountString", "internal/abi.NoEscape", "internal/bytealg.MakeNoZero"], unfollowed := true, recurses := true, named := ["internal/bytealg.MaxLen", "unicode/utf8.first", "unicode/utf8.acceptRanges"], apart := false, laid := [("unicode/utf8.acceptRanges", laid_unicode_utf8_acceptRanges), ("unicode/utf8.first", laid_unicode_utf8_first)], narrowed := true }
def ItemAllUptoSaid : Prop := itemAllUptoRow.holds Tryz.pinned (OpenSpec.upto itemAllSpec)

/-- 'abacistlaw15.ItemGroups', WHERE WHAT IT READS IS OF BULK AT MOST 1048576: true; the input reads as it did. -/
def itemGroupsUptoRow : OpenClaim := { program := "ythoicieckodneaagreatdoor", sum := "c1bc87df3a06e8f9034e715d6271e0bd97eb2b08f20dd54d931042b4aac39ac2", func := "abacist/abacistlaw15.ItemGroups", spec := "itemGroups", inPlace := ["internal/bytealg.IndexByteString", "internal/bytealg.IndexString", "internal/bytealg.CountString", "internal/abi.NoEscape", "internal/bytealg.MakeNoZero"], unfollowed := true, recurses := true, named := ["internal/bytealg.MaxLen", "unicode/utf8.first", "unicode/utf8.acceptRanges"], apart := false, laid := [("unicode/utf8.acceptRanges", laid_unicode_utf8_acceptRanges), ("unicode/utf8.first", laid_unicode_utf8_first)], narrowed := true }
def ItemGroupsUptoSaid : Prop := itemGroupsUptoRow.holds Tryz.pinned (OpenSpec.upto itemGroupsSpec)

/-- 'abacistlaw15.ItemClusters', WHERE WHAT IT READS IS OF BULK AT MOST 1048576: true; the input reads as it did. -/
def itemClustersUptoRow : OpenClaim := { program := "ythoicieckodneaagreatdoor", sum := "c1bc87df3a06e8f9034e715d6271e0bd97eb2b08f20dd54d931042b4aac39ac2", func := "abacist/abacistlaw15.ItemClusters", spec := "itemClusters", inPlace := ["internal/bytealg.IndexByteString", "internal/bytealg.IndexString", "internal/bytealg.CountString", "internal/abi.NoEscape", "internal/bytealg.MakeNoZero"], unfollowed := true, recurses := true, named := ["internal/bytealg.MaxLen", "unicode/utf8.first", "unicode/utf8.acceptRanges"], apart := false, laid := [("unicode/utf8.acceptRanges", laid_unicode_utf8_acceptRanges), ("unicode/utf8.first", laid_unicode_utf8_first)], narrowed := true }
def ItemClustersUptoSaid : Prop := itemClustersUptoRow.holds Tryz.pinned (OpenSpec.upto itemClustersSpec)

/-- 'abacistlaw16.ViewStops', WHERE WHAT IT READS IS OF BULK AT MOST 1048576: true; the input reads as it did. -/
def viewStopsUptoRow : OpenClaim := { program := "ythoicieckodneaagreatdoor", sum := "c1bc87df3a06e8f9034e715d6271e0bd97eb2b08f20dd54d931042b4aac39ac2", func := "abacist/abacistlaw16.ViewStops", spec := "viewStops", inPlace := ["internal/bytealg.IndexByteString", "internal/bytealg.IndexString", "internal/bytealg.CountString", "internal/abi.NoEscape", "internal/bytealg.MakeNoZero"], unfollowed := true, recurses := true, named := ["internal/bytealg.MaxLen", "unicode/utf8.first", "unicode/utf8.acceptRanges"], apart := false, laid := [("unicode/utf8.acceptRanges", laid_unicode_utf8_acceptRanges), ("unicode/utf8.first", laid_unicode_utf8_first)], narrowed := true }
def ViewStopsUptoSaid : Prop := viewStopsUptoRow.holds Tryz.pinned (OpenSpec.upto viewStopsSpec)

/-- 'abacistlaw16.ViewSlices', WHERE WHAT IT READS IS OF BULK AT MOST 1048576: true; the input reads as it did. -/
def viewSlicesUptoRow : OpenClaim := { program := "ythoicieckodneaagreatdoor", sum := "c1bc87df3a06e8f9034e715d6271e0bd97eb2b08f20dd54d931042b4aac39ac2", func := "abacist/abacistlaw16.ViewSlices", spec := "viewSlices", inPlace := ["internal/bytealg.IndexByteString", "internal/bytealg.IndexString", "internal/bytealg.CountString", "internal/abi.NoEscape", "internal/bytealg.MakeNoZero"], unfollowed := true, recurses := true, named := ["internal/bytealg.MaxLen", "unicode/utf8.first", "unicode/utf8.acceptRanges"], apart := false, laid := [("unicode/utf8.acceptRanges", laid_unicode_utf8_acceptRanges), ("unicode/utf8.first", laid_unicode_utf8_first)], narrowed := true }
def ViewSlicesUptoSaid : Prop := viewSlicesUptoRow.holds Tryz.pinned (OpenSpec.upto viewSlicesSpec)

/-- 'abacistlaw16.ViewBack', WHERE WHAT IT READS IS OF BULK AT MOST 1048576: true; the input reads as it did. -/
def viewBackUptoRow : OpenClaim := { program := "ythoicieckodneaagreatdoor", sum := "c1bc87df3a06e8f9034e715d6271e0bd97eb2b08f20dd54d931042b4aac39ac2", func := "abacist/abacistlaw16.ViewBack", spec := "viewBack", inPlace := ["internal/bytealg.IndexByteString", "internal/bytealg.IndexString", "internal/bytealg.CountString", "internal/abi.NoEscape", "internal/bytealg.MakeNoZero"], unfollowed := true, recurses := true, named := ["internal/bytealg.MaxLen", "unicode/utf8.first", "unicode/utf8.acceptRanges"], apart := false, laid := [("unicode/utf8.acceptRanges", laid_unicode_utf8_acceptRanges), ("unicode/utf8.first", laid_unicode_utf8_first)], narrowed := true }
def ViewBackUptoSaid : Prop := viewBackUptoRow.holds Tryz.pinned (OpenSpec.upto viewBackSpec)

/-- 'abacistlaw16.ViewLegal', WHERE WHAT IT READS IS OF BULK AT MOST 1048576: true; the input reads as it did. -/
def viewLegalUptoRow : OpenClaim := { program := "ythoicieckodneaagreatdoor", sum := "c1bc87df3a06e8f9034e715d6271e0bd97eb2b08f20dd54d931042b4aac39ac2", func := "abacist/abacistlaw16.ViewLegal", spec := "viewLegal", inPlace := ["internal/bytealg.IndexByteString", "internal/bytealg.IndexString", "internal/bytealg.CountString", "internal/abi.NoEscape", "internal/bytealg.MakeNoZero"], unfollowed := true, recurses := true, named := ["internal/bytealg.MaxLen", "unicode/utf8.first", "unicode/utf8.acceptRanges"], apart := false, laid := [("unicode/utf8.acceptRanges", laid_unicode_utf8_acceptRanges), ("unicode/utf8.first", laid_unicode_utf8_first)], narrowed := true }
def ViewLegalUptoSaid : Prop := viewLegalUptoRow.holds Tryz.pinned (OpenSpec.upto viewLegalSpec)

/-- 'abacistlaw16.ViewBounds', WHERE WHAT IT READS IS OF BULK AT MOST 1048576: true; the input reads as it did. -/
def viewBoundsUptoRow : OpenClaim := { program := "ythoicieckodneaagreatdoor", sum := "c1bc87df3a06e8f9034e715d6271e0bd97eb2b08f20dd54d931042b4aac39ac2", func := "abacist/abacistlaw16.ViewBounds", spec := "viewBounds", inPlace := ["internal/bytealg.IndexByteString", "internal/bytealg.IndexString", "internal/bytealg.CountString", "internal/abi.NoEscape", "internal/bytealg.MakeNoZero"], unfollowed := true, recurses := true, named := ["internal/bytealg.MaxLen", "unicode/utf8.first", "unicode/utf8.acceptRanges"], apart := false, laid := [("unicode/utf8.acceptRanges", laid_unicode_utf8_acceptRanges), ("unicode/utf8.first", laid_unicode_utf8_first)], narrowed := true }
def ViewBoundsUptoSaid : Prop := viewBoundsUptoRow.holds Tryz.pinned (OpenSpec.upto viewBoundsSpec)

/-- 'abacistlaw16.ViewNear', WHERE WHAT IT READS IS OF BULK AT MOST 1048576: true; the input reads as it did. -/
def viewNearUptoRow : OpenClaim := { program := "ythoicieckodneaagreatdoor", sum := "c1bc87df3a06e8f9034e715d6271e0bd97eb2b08f20dd54d931042b4aac39ac2", func := "abacist/abacistlaw16.ViewNear", spec := "viewNear", inPlace := ["internal/bytealg.IndexByteString", "internal/bytealg.IndexString", "internal/bytealg.CountString", "internal/abi.NoEscape", "internal/bytealg.MakeNoZero"], unfollowed := true, recurses := true, named := ["internal/bytealg.MaxLen", "unicode/utf8.first", "unicode/utf8.acceptRanges"], apart := false, laid := [("unicode/utf8.acceptRanges", laid_unicode_utf8_acceptRanges), ("unicode/utf8.first", laid_unicode_utf8_first)], narrowed := true }
def ViewNearUptoSaid : Prop := viewNearUptoRow.holds Tryz.pinned (OpenSpec.upto viewNearSpec)

end Rows
end Go.Proofs.YthoicieckodneaaGreatDoor
