/-
  DERIVED. GIVEN WITH THE SEED: THE CARDS: each row of YtcghgkagpkmpeaaGreatDoorRows.lean that lists a variable, with what it lists TIED to the program's text (the seventh form; the later family's looks); each row that meets fmt, with fmt's text TOLD by the authors' own Lean function (tested against real Go, not proved from fmt's source: count such statements apart). THE CARD IS WHAT COUNTS. Prove the row's statement (the work); the ties are given (YtcghgkagpkmpeaaGreatDoorTie.lean); close each card by the builder's one call (the guide's Derived/Test/ToyasCard.lean, 'card_holds'). Laid BY PROGRAM, IN A SANDBOX (cutbox-door.mjs). By AI agents, Wed Nov 11 2026. No macro, syntax, notation, axiom, sorry.
-/
import Derived.Test.YtcghgkagpkmpeaaGreatDoorRows
import GoSem.ClaimSeven
namespace Go.Proofs.YtcghgkagpkmpeaaGreatDoor
namespace Rows

/-- THE TIED CARD OF 'abacistlaw18.PasteKinds'. -/
def pasteKindsCard : Claim7 := { stood := { row := pasteKindsRow, standIns := [], harness := (true, "c69b1471a8212e31cbbc58c80f81dcdbf3fabde99d99a995767b3ca9ce03b7af"), looks := true }, kinds := [], alts := [], laidByText := true, laidKinds := [.data, .pinned], laidTests := true, laidLooks := .later }
def PasteKindsCardSaid : Prop := Claim7.holds Tryz.pinned (.plain (OpenSpec.ofChange pasteKindsSpec)) pasteKindsCard

/-- THE TIED CARD OF 'abacistlaw18.PasteBlanks'. -/
def pasteBlanksCard : Claim7 := { stood := { row := pasteBlanksRow, standIns := [], harness := (true, "c69b1471a8212e31cbbc58c80f81dcdbf3fabde99d99a995767b3ca9ce03b7af"), looks := true }, kinds := [], alts := [], laidByText := true, laidKinds := [.data, .pinned], laidTests := true, laidLooks := .later }
def PasteBlanksCardSaid : Prop := Claim7.holds Tryz.pinned (.plain (OpenSpec.ofChange pasteBlanksSpec)) pasteBlanksCard

/-- THE TIED CARD OF 'abacistlaw17.StrictReads'. -/
def strictReadsCard : Claim7 := { stood := { row := strictReadsRow, standIns := [], harness := (true, "c69b1471a8212e31cbbc58c80f81dcdbf3fabde99d99a995767b3ca9ce03b7af"), looks := true }, kinds := [], alts := [], laidByText := true, laidKinds := [.data, .pinned], laidTests := true, laidLooks := .later }
def StrictReadsCardSaid : Prop := Claim7.holds Tryz.pinned (.plain (OpenSpec.ofChange strictReadsSpec)) strictReadsCard

/-- THE TIED CARD OF 'abacistlaw17.StrictItems'. -/
def strictItemsCard : Claim7 := { stood := { row := strictItemsRow, standIns := [], harness := (true, "c69b1471a8212e31cbbc58c80f81dcdbf3fabde99d99a995767b3ca9ce03b7af"), looks := true }, kinds := [], alts := [], laidByText := true, laidKinds := [.data, .pinned], laidTests := true, laidLooks := .later }
def StrictItemsCardSaid : Prop := Claim7.holds Tryz.pinned (.plain (OpenSpec.ofChange strictItemsSpec)) strictItemsCard

/-- THE SECOND FORM's CARD OF 'abacistlaw18.PasteKinds'. -/
def pasteKindsUptoCard : Claim7 := { stood := { row := pasteKindsUptoRow, standIns := [], harness := (true, "c69b1471a8212e31cbbc58c80f81dcdbf3fabde99d99a995767b3ca9ce03b7af"), looks := true }, kinds := [], alts := [], laidByText := true, laidKinds := [.data, .pinned], laidTests := true, laidLooks := .later }
def PasteKindsUptoCardSaid : Prop := Claim7.holds Tryz.pinned (.plain (OpenSpec.upto pasteKindsSpec)) pasteKindsUptoCard

/-- THE SECOND FORM's CARD OF 'abacistlaw18.PasteBlanks'. -/
def pasteBlanksUptoCard : Claim7 := { stood := { row := pasteBlanksUptoRow, standIns := [], harness := (true, "c69b1471a8212e31cbbc58c80f81dcdbf3fabde99d99a995767b3ca9ce03b7af"), looks := true }, kinds := [], alts := [], laidByText := true, laidKinds := [.data, .pinned], laidTests := true, laidLooks := .later }
def PasteBlanksUptoCardSaid : Prop := Claim7.holds Tryz.pinned (.plain (OpenSpec.upto pasteBlanksSpec)) pasteBlanksUptoCard

/-- THE SECOND FORM's CARD OF 'abacistlaw17.StrictReads'. -/
def strictReadsUptoCard : Claim7 := { stood := { row := strictReadsUptoRow, standIns := [], harness := (true, "c69b1471a8212e31cbbc58c80f81dcdbf3fabde99d99a995767b3ca9ce03b7af"), looks := true }, kinds := [], alts := [], laidByText := true, laidKinds := [.data, .pinned], laidTests := true, laidLooks := .later }
def StrictReadsUptoCardSaid : Prop := Claim7.holds Tryz.pinned (.plain (OpenSpec.upto strictReadsSpec)) strictReadsUptoCard

/-- THE SECOND FORM's CARD OF 'abacistlaw17.StrictItems'. -/
def strictItemsUptoCard : Claim7 := { stood := { row := strictItemsUptoRow, standIns := [], harness := (true, "c69b1471a8212e31cbbc58c80f81dcdbf3fabde99d99a995767b3ca9ce03b7af"), looks := true }, kinds := [], alts := [], laidByText := true, laidKinds := [.data, .pinned], laidTests := true, laidLooks := .later }
def StrictItemsUptoCardSaid : Prop := Claim7.holds Tryz.pinned (.plain (OpenSpec.upto strictItemsSpec)) strictItemsUptoCard
end Rows
end Go.Proofs.YtcghgkagpkmpeaaGreatDoor
