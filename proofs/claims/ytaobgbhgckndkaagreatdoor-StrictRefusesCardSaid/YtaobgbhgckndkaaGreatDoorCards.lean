/-
  DERIVED. GIVEN WITH THE SEED: THE CARDS: each row of YtaobgbhgckndkaaGreatDoorRows.lean that lists a variable, with what it lists TIED to the program's text (the seventh form; the later family's looks); each row that meets fmt, with fmt's text TOLD by the authors' own Lean function (tested against real Go, not proved from fmt's source: count such statements apart). THE CARD IS WHAT COUNTS. Prove the row's statement (the work); the ties are given (YtaobgbhgckndkaaGreatDoorTie.lean); close each card by the builder's one call (the guide's Derived/Test/ToyasCard.lean, 'card_holds'). Laid BY PROGRAM, IN A SANDBOX (cutbox-door.mjs). By AI agents, Wed Nov 11 2026. No macro, syntax, notation, axiom, sorry.
-/
import Derived.Test.YtaobgbhgckndkaaGreatDoorRows
import GoSem.ClaimSeven
namespace Go.Proofs.YtaobgbhgckndkaaGreatDoor
namespace Rows

/-- THE TIED CARD OF 'abacistlaw18.PasteKinds'. -/
def pasteKindsCard : Claim7 := { stood := { row := pasteKindsRow, standIns := [], harness := (true, "07b63482e8c32bed08b1afff48e6baf8673669e1991b4918d0ce43846bc5d90f"), looks := true }, kinds := [], alts := [], laidByText := true, laidKinds := [.data, .pinned], laidTests := true, laidLooks := .later }
def PasteKindsCardSaid : Prop := Claim7.holds Tryz.pinned (.plain (OpenSpec.ofChange pasteKindsSpec)) pasteKindsCard

/-- THE TIED CARD OF 'abacistlaw18.PasteShown'. -/
def pasteShownCard : Claim7 := { stood := { row := pasteShownRow, standIns := [], harness := (true, "07b63482e8c32bed08b1afff48e6baf8673669e1991b4918d0ce43846bc5d90f"), looks := true }, kinds := [], alts := [], laidByText := true, laidKinds := [.data, .pinned], laidTests := true, laidLooks := .later }
def PasteShownCardSaid : Prop := Claim7.holds Tryz.pinned (.plain (OpenSpec.ofChange pasteShownSpec)) pasteShownCard

/-- THE TIED CARD OF 'abacistlaw18.PasteLong'. -/
def pasteLongCard : Claim7 := { stood := { row := pasteLongRow, standIns := [], harness := (true, "07b63482e8c32bed08b1afff48e6baf8673669e1991b4918d0ce43846bc5d90f"), looks := true }, kinds := [], alts := [], laidByText := true, laidKinds := [.data, .pinned], laidTests := true, laidLooks := .later }
def PasteLongCardSaid : Prop := Claim7.holds Tryz.pinned (.plain (OpenSpec.ofChange pasteLongSpec)) pasteLongCard

/-- THE TIED CARD OF 'abacistlaw18.PasteBlanks'. -/
def pasteBlanksCard : Claim7 := { stood := { row := pasteBlanksRow, standIns := [], harness := (true, "07b63482e8c32bed08b1afff48e6baf8673669e1991b4918d0ce43846bc5d90f"), looks := true }, kinds := [], alts := [], laidByText := true, laidKinds := [.data, .pinned], laidTests := true, laidLooks := .later }
def PasteBlanksCardSaid : Prop := Claim7.holds Tryz.pinned (.plain (OpenSpec.ofChange pasteBlanksSpec)) pasteBlanksCard

/-- THE TIED CARD OF 'abacistlaw17.StrictRefuses'. -/
def strictRefusesCard : Claim7 := { stood := { row := strictRefusesRow, standIns := [], harness := (true, "07b63482e8c32bed08b1afff48e6baf8673669e1991b4918d0ce43846bc5d90f"), looks := true }, kinds := [], alts := [], laidByText := true, laidKinds := [.data, .pinned], laidTests := true, laidLooks := .later }
def StrictRefusesCardSaid : Prop := Claim7.holds Tryz.pinned (.plain (OpenSpec.ofChange strictRefusesSpec)) strictRefusesCard

/-- THE TIED CARD OF 'abacistlaw18.PasteTexts'. -/
def pasteTextsCard : Claim7 := { stood := { row := pasteTextsRow, standIns := [], harness := (true, "07b63482e8c32bed08b1afff48e6baf8673669e1991b4918d0ce43846bc5d90f"), looks := true }, kinds := [], alts := [], laidByText := true, laidKinds := [.data, .pinned], laidTests := true, laidLooks := .later }
def PasteTextsCardSaid : Prop := Claim7.holds Tryz.pinned (.plain (OpenSpec.ofChange pasteTextsSpec)) pasteTextsCard

/-- THE TIED CARD OF 'abacistlaw17.StrictShows'. -/
def strictShowsCard : Claim7 := { stood := { row := strictShowsRow, standIns := [], harness := (true, "07b63482e8c32bed08b1afff48e6baf8673669e1991b4918d0ce43846bc5d90f"), looks := true }, kinds := [], alts := [], laidByText := true, laidKinds := [.data, .pinned], laidTests := true, laidLooks := .later }
def StrictShowsCardSaid : Prop := Claim7.holds Tryz.pinned (.plain (OpenSpec.ofChange strictShowsSpec)) strictShowsCard

/-- THE TIED CARD OF 'abacistlaw17.StrictApart'. -/
def strictApartCard : Claim7 := { stood := { row := strictApartRow, standIns := [], harness := (true, "07b63482e8c32bed08b1afff48e6baf8673669e1991b4918d0ce43846bc5d90f"), looks := true }, kinds := [], alts := [], laidByText := true, laidKinds := [.data, .pinned], laidTests := true, laidLooks := .later }
def StrictApartCardSaid : Prop := Claim7.holds Tryz.pinned (.plain (OpenSpec.ofChange strictApartSpec)) strictApartCard

/-- THE TIED CARD OF 'abacistlaw17.StrictSwitches'. -/
def strictSwitchesCard : Claim7 := { stood := { row := strictSwitchesRow, standIns := [], harness := (true, "07b63482e8c32bed08b1afff48e6baf8673669e1991b4918d0ce43846bc5d90f"), looks := true }, kinds := [], alts := [], laidByText := true, laidKinds := [.data, .pinned], laidTests := true, laidLooks := .later }
def StrictSwitchesCardSaid : Prop := Claim7.holds Tryz.pinned (.plain (OpenSpec.ofChange strictSwitchesSpec)) strictSwitchesCard

/-- THE TIED CARD OF 'abacistlaw17.StrictReads'. -/
def strictReadsCard : Claim7 := { stood := { row := strictReadsRow, standIns := [], harness := (true, "07b63482e8c32bed08b1afff48e6baf8673669e1991b4918d0ce43846bc5d90f"), looks := true }, kinds := [], alts := [], laidByText := true, laidKinds := [.data, .pinned], laidTests := true, laidLooks := .later }
def StrictReadsCardSaid : Prop := Claim7.holds Tryz.pinned (.plain (OpenSpec.ofChange strictReadsSpec)) strictReadsCard

/-- THE TIED CARD OF 'abacistlaw17.StrictItems'. -/
def strictItemsCard : Claim7 := { stood := { row := strictItemsRow, standIns := [], harness := (true, "07b63482e8c32bed08b1afff48e6baf8673669e1991b4918d0ce43846bc5d90f"), looks := true }, kinds := [], alts := [], laidByText := true, laidKinds := [.data, .pinned], laidTests := true, laidLooks := .later }
def StrictItemsCardSaid : Prop := Claim7.holds Tryz.pinned (.plain (OpenSpec.ofChange strictItemsSpec)) strictItemsCard

/-- THE SECOND FORM's CARD OF 'abacistlaw18.PasteKinds'. -/
def pasteKindsUptoCard : Claim7 := { stood := { row := pasteKindsUptoRow, standIns := [], harness := (true, "07b63482e8c32bed08b1afff48e6baf8673669e1991b4918d0ce43846bc5d90f"), looks := true }, kinds := [], alts := [], laidByText := true, laidKinds := [.data, .pinned], laidTests := true, laidLooks := .later }
def PasteKindsUptoCardSaid : Prop := Claim7.holds Tryz.pinned (.plain (OpenSpec.upto pasteKindsSpec)) pasteKindsUptoCard

/-- THE SECOND FORM's CARD OF 'abacistlaw18.PasteShown'. -/
def pasteShownUptoCard : Claim7 := { stood := { row := pasteShownUptoRow, standIns := [], harness := (true, "07b63482e8c32bed08b1afff48e6baf8673669e1991b4918d0ce43846bc5d90f"), looks := true }, kinds := [], alts := [], laidByText := true, laidKinds := [.data, .pinned], laidTests := true, laidLooks := .later }
def PasteShownUptoCardSaid : Prop := Claim7.holds Tryz.pinned (.plain (OpenSpec.upto pasteShownSpec)) pasteShownUptoCard

/-- THE SECOND FORM's CARD OF 'abacistlaw18.PasteLong'. -/
def pasteLongUptoCard : Claim7 := { stood := { row := pasteLongUptoRow, standIns := [], harness := (true, "07b63482e8c32bed08b1afff48e6baf8673669e1991b4918d0ce43846bc5d90f"), looks := true }, kinds := [], alts := [], laidByText := true, laidKinds := [.data, .pinned], laidTests := true, laidLooks := .later }
def PasteLongUptoCardSaid : Prop := Claim7.holds Tryz.pinned (.plain (OpenSpec.upto pasteLongSpec)) pasteLongUptoCard

/-- THE SECOND FORM's CARD OF 'abacistlaw18.PasteBlanks'. -/
def pasteBlanksUptoCard : Claim7 := { stood := { row := pasteBlanksUptoRow, standIns := [], harness := (true, "07b63482e8c32bed08b1afff48e6baf8673669e1991b4918d0ce43846bc5d90f"), looks := true }, kinds := [], alts := [], laidByText := true, laidKinds := [.data, .pinned], laidTests := true, laidLooks := .later }
def PasteBlanksUptoCardSaid : Prop := Claim7.holds Tryz.pinned (.plain (OpenSpec.upto pasteBlanksSpec)) pasteBlanksUptoCard

/-- THE SECOND FORM's CARD OF 'abacistlaw17.StrictRefuses'. -/
def strictRefusesUptoCard : Claim7 := { stood := { row := strictRefusesUptoRow, standIns := [], harness := (true, "07b63482e8c32bed08b1afff48e6baf8673669e1991b4918d0ce43846bc5d90f"), looks := true }, kinds := [], alts := [], laidByText := true, laidKinds := [.data, .pinned], laidTests := true, laidLooks := .later }
def StrictRefusesUptoCardSaid : Prop := Claim7.holds Tryz.pinned (.plain (OpenSpec.upto strictRefusesSpec)) strictRefusesUptoCard

/-- THE SECOND FORM's CARD OF 'abacistlaw18.PasteTexts'. -/
def pasteTextsUptoCard : Claim7 := { stood := { row := pasteTextsUptoRow, standIns := [], harness := (true, "07b63482e8c32bed08b1afff48e6baf8673669e1991b4918d0ce43846bc5d90f"), looks := true }, kinds := [], alts := [], laidByText := true, laidKinds := [.data, .pinned], laidTests := true, laidLooks := .later }
def PasteTextsUptoCardSaid : Prop := Claim7.holds Tryz.pinned (.plain (OpenSpec.upto pasteTextsSpec)) pasteTextsUptoCard

/-- THE SECOND FORM's CARD OF 'abacistlaw17.StrictShows'. -/
def strictShowsUptoCard : Claim7 := { stood := { row := strictShowsUptoRow, standIns := [], harness := (true, "07b63482e8c32bed08b1afff48e6baf8673669e1991b4918d0ce43846bc5d90f"), looks := true }, kinds := [], alts := [], laidByText := true, laidKinds := [.data, .pinned], laidTests := true, laidLooks := .later }
def StrictShowsUptoCardSaid : Prop := Claim7.holds Tryz.pinned (.plain (OpenSpec.upto strictShowsSpec)) strictShowsUptoCard

/-- THE SECOND FORM's CARD OF 'abacistlaw17.StrictApart'. -/
def strictApartUptoCard : Claim7 := { stood := { row := strictApartUptoRow, standIns := [], harness := (true, "07b63482e8c32bed08b1afff48e6baf8673669e1991b4918d0ce43846bc5d90f"), looks := true }, kinds := [], alts := [], laidByText := true, laidKinds := [.data, .pinned], laidTests := true, laidLooks := .later }
def StrictApartUptoCardSaid : Prop := Claim7.holds Tryz.pinned (.plain (OpenSpec.upto strictApartSpec)) strictApartUptoCard

/-- THE SECOND FORM's CARD OF 'abacistlaw17.StrictSwitches'. -/
def strictSwitchesUptoCard : Claim7 := { stood := { row := strictSwitchesUptoRow, standIns := [], harness := (true, "07b63482e8c32bed08b1afff48e6baf8673669e1991b4918d0ce43846bc5d90f"), looks := true }, kinds := [], alts := [], laidByText := true, laidKinds := [.data, .pinned], laidTests := true, laidLooks := .later }
def StrictSwitchesUptoCardSaid : Prop := Claim7.holds Tryz.pinned (.plain (OpenSpec.upto strictSwitchesSpec)) strictSwitchesUptoCard

/-- THE SECOND FORM's CARD OF 'abacistlaw17.StrictReads'. -/
def strictReadsUptoCard : Claim7 := { stood := { row := strictReadsUptoRow, standIns := [], harness := (true, "07b63482e8c32bed08b1afff48e6baf8673669e1991b4918d0ce43846bc5d90f"), looks := true }, kinds := [], alts := [], laidByText := true, laidKinds := [.data, .pinned], laidTests := true, laidLooks := .later }
def StrictReadsUptoCardSaid : Prop := Claim7.holds Tryz.pinned (.plain (OpenSpec.upto strictReadsSpec)) strictReadsUptoCard

/-- THE SECOND FORM's CARD OF 'abacistlaw17.StrictItems'. -/
def strictItemsUptoCard : Claim7 := { stood := { row := strictItemsUptoRow, standIns := [], harness := (true, "07b63482e8c32bed08b1afff48e6baf8673669e1991b4918d0ce43846bc5d90f"), looks := true }, kinds := [], alts := [], laidByText := true, laidKinds := [.data, .pinned], laidTests := true, laidLooks := .later }
def StrictItemsUptoCardSaid : Prop := Claim7.holds Tryz.pinned (.plain (OpenSpec.upto strictItemsSpec)) strictItemsUptoCard
end Rows
end Go.Proofs.YtaobgbhgckndkaaGreatDoor
