/-
  DERIVED. GIVEN WITH THE SEED: THE CARDS: each row of YthoicieckodneaaGreatDoorRows.lean that lists a variable, with what it lists TIED to the program's text (the seventh form; the later family's looks); each row that meets fmt, with fmt's text TOLD by the authors' own Lean function (tested against real Go, not proved from fmt's source: count such statements apart). THE CARD IS WHAT COUNTS. Prove the row's statement (the work); the ties are given (YthoicieckodneaaGreatDoorTie.lean); close each card by the builder's one call (the guide's Derived/Test/ToyasCard.lean, 'card_holds'). Laid BY PROGRAM, IN A SANDBOX (cutbox-door.mjs). By AI agents, Wed Nov 11 2026. No macro, syntax, notation, axiom, sorry.
-/
import Derived.Test.YthoicieckodneaaGreatDoorRows
import GoSem.ClaimSeven
namespace Go.Proofs.YthoicieckodneaaGreatDoor
namespace Rows

/-- THE TIED CARD OF 'abacistlaw15.ItemSigns'. -/
def itemSignsCard : Claim7 := { stood := { row := itemSignsRow, standIns := [], harness := (true, "7835c213e469c1e0e5967384db7a0ac134871518ee5e62cb669d0d8abb2376b9"), looks := true }, kinds := [], alts := [], laidByText := true, laidKinds := [.data, .pinned], laidTests := true, laidLooks := .later }
def ItemSignsCardSaid : Prop := Claim7.holds Tryz.pinned (.plain (OpenSpec.ofChange itemSignsSpec)) itemSignsCard

/-- THE TIED CARD OF 'abacistlaw15.ItemAtoms'. -/
def itemAtomsCard : Claim7 := { stood := { row := itemAtomsRow, standIns := [], harness := (true, "7835c213e469c1e0e5967384db7a0ac134871518ee5e62cb669d0d8abb2376b9"), looks := true }, kinds := [], alts := [], laidByText := true, laidKinds := [.data, .pinned], laidTests := true, laidLooks := .later }
def ItemAtomsCardSaid : Prop := Claim7.holds Tryz.pinned (.plain (OpenSpec.ofChange itemAtomsSpec)) itemAtomsCard

/-- THE TIED CARD OF 'abacistlaw15.ItemAll'. -/
def itemAllCard : Claim7 := { stood := { row := itemAllRow, standIns := [], harness := (true, "7835c213e469c1e0e5967384db7a0ac134871518ee5e62cb669d0d8abb2376b9"), looks := true }, kinds := [], alts := [], laidByText := true, laidKinds := [.data, .pinned], laidTests := true, laidLooks := .later }
def ItemAllCardSaid : Prop := Claim7.holds Tryz.pinned (.plain (OpenSpec.ofChange itemAllSpec)) itemAllCard

/-- THE TIED CARD OF 'abacistlaw15.ItemGroups'. -/
def itemGroupsCard : Claim7 := { stood := { row := itemGroupsRow, standIns := [], harness := (true, "7835c213e469c1e0e5967384db7a0ac134871518ee5e62cb669d0d8abb2376b9"), looks := true }, kinds := [], alts := [], laidByText := true, laidKinds := [.data, .pinned], laidTests := true, laidLooks := .later }
def ItemGroupsCardSaid : Prop := Claim7.holds Tryz.pinned (.plain (OpenSpec.ofChange itemGroupsSpec)) itemGroupsCard

/-- THE TIED CARD OF 'abacistlaw15.ItemClusters'. -/
def itemClustersCard : Claim7 := { stood := { row := itemClustersRow, standIns := [], harness := (true, "7835c213e469c1e0e5967384db7a0ac134871518ee5e62cb669d0d8abb2376b9"), looks := true }, kinds := [], alts := [], laidByText := true, laidKinds := [.data, .pinned], laidTests := true, laidLooks := .later }
def ItemClustersCardSaid : Prop := Claim7.holds Tryz.pinned (.plain (OpenSpec.ofChange itemClustersSpec)) itemClustersCard

/-- THE TIED CARD OF 'abacistlaw16.ViewStops'. -/
def viewStopsCard : Claim7 := { stood := { row := viewStopsRow, standIns := [], harness := (true, "7835c213e469c1e0e5967384db7a0ac134871518ee5e62cb669d0d8abb2376b9"), looks := true }, kinds := [], alts := [], laidByText := true, laidKinds := [.data, .pinned], laidTests := true, laidLooks := .later }
def ViewStopsCardSaid : Prop := Claim7.holds Tryz.pinned (.plain (OpenSpec.ofChange viewStopsSpec)) viewStopsCard

/-- THE TIED CARD OF 'abacistlaw16.ViewSlices'. -/
def viewSlicesCard : Claim7 := { stood := { row := viewSlicesRow, standIns := [], harness := (true, "7835c213e469c1e0e5967384db7a0ac134871518ee5e62cb669d0d8abb2376b9"), looks := true }, kinds := [], alts := [], laidByText := true, laidKinds := [.data, .pinned], laidTests := true, laidLooks := .later }
def ViewSlicesCardSaid : Prop := Claim7.holds Tryz.pinned (.plain (OpenSpec.ofChange viewSlicesSpec)) viewSlicesCard

/-- THE TIED CARD OF 'abacistlaw16.ViewBack'. -/
def viewBackCard : Claim7 := { stood := { row := viewBackRow, standIns := [], harness := (true, "7835c213e469c1e0e5967384db7a0ac134871518ee5e62cb669d0d8abb2376b9"), looks := true }, kinds := [], alts := [], laidByText := true, laidKinds := [.data, .pinned], laidTests := true, laidLooks := .later }
def ViewBackCardSaid : Prop := Claim7.holds Tryz.pinned (.plain (OpenSpec.ofChange viewBackSpec)) viewBackCard

/-- THE TIED CARD OF 'abacistlaw16.ViewLegal'. -/
def viewLegalCard : Claim7 := { stood := { row := viewLegalRow, standIns := [], harness := (true, "7835c213e469c1e0e5967384db7a0ac134871518ee5e62cb669d0d8abb2376b9"), looks := true }, kinds := [], alts := [], laidByText := true, laidKinds := [.data, .pinned], laidTests := true, laidLooks := .later }
def ViewLegalCardSaid : Prop := Claim7.holds Tryz.pinned (.plain (OpenSpec.ofChange viewLegalSpec)) viewLegalCard

/-- THE TIED CARD OF 'abacistlaw16.ViewBounds'. -/
def viewBoundsCard : Claim7 := { stood := { row := viewBoundsRow, standIns := [], harness := (true, "7835c213e469c1e0e5967384db7a0ac134871518ee5e62cb669d0d8abb2376b9"), looks := true }, kinds := [], alts := [], laidByText := true, laidKinds := [.data, .pinned], laidTests := true, laidLooks := .later }
def ViewBoundsCardSaid : Prop := Claim7.holds Tryz.pinned (.plain (OpenSpec.ofChange viewBoundsSpec)) viewBoundsCard

/-- THE TIED CARD OF 'abacistlaw16.ViewNear'. -/
def viewNearCard : Claim7 := { stood := { row := viewNearRow, standIns := [], harness := (true, "7835c213e469c1e0e5967384db7a0ac134871518ee5e62cb669d0d8abb2376b9"), looks := true }, kinds := [], alts := [], laidByText := true, laidKinds := [.data, .pinned], laidTests := true, laidLooks := .later }
def ViewNearCardSaid : Prop := Claim7.holds Tryz.pinned (.plain (OpenSpec.ofChange viewNearSpec)) viewNearCard

/-- THE SECOND FORM's CARD OF 'abacistlaw15.ItemSigns'. -/
def itemSignsUptoCard : Claim7 := { stood := { row := itemSignsUptoRow, standIns := [], harness := (true, "7835c213e469c1e0e5967384db7a0ac134871518ee5e62cb669d0d8abb2376b9"), looks := true }, kinds := [], alts := [], laidByText := true, laidKinds := [.data, .pinned], laidTests := true, laidLooks := .later }
def ItemSignsUptoCardSaid : Prop := Claim7.holds Tryz.pinned (.plain (OpenSpec.upto itemSignsSpec)) itemSignsUptoCard

/-- THE SECOND FORM's CARD OF 'abacistlaw15.ItemAtoms'. -/
def itemAtomsUptoCard : Claim7 := { stood := { row := itemAtomsUptoRow, standIns := [], harness := (true, "7835c213e469c1e0e5967384db7a0ac134871518ee5e62cb669d0d8abb2376b9"), looks := true }, kinds := [], alts := [], laidByText := true, laidKinds := [.data, .pinned], laidTests := true, laidLooks := .later }
def ItemAtomsUptoCardSaid : Prop := Claim7.holds Tryz.pinned (.plain (OpenSpec.upto itemAtomsSpec)) itemAtomsUptoCard

/-- THE SECOND FORM's CARD OF 'abacistlaw15.ItemAll'. -/
def itemAllUptoCard : Claim7 := { stood := { row := itemAllUptoRow, standIns := [], harness := (true, "7835c213e469c1e0e5967384db7a0ac134871518ee5e62cb669d0d8abb2376b9"), looks := true }, kinds := [], alts := [], laidByText := true, laidKinds := [.data, .pinned], laidTests := true, laidLooks := .later }
def ItemAllUptoCardSaid : Prop := Claim7.holds Tryz.pinned (.plain (OpenSpec.upto itemAllSpec)) itemAllUptoCard

/-- THE SECOND FORM's CARD OF 'abacistlaw15.ItemGroups'. -/
def itemGroupsUptoCard : Claim7 := { stood := { row := itemGroupsUptoRow, standIns := [], harness := (true, "7835c213e469c1e0e5967384db7a0ac134871518ee5e62cb669d0d8abb2376b9"), looks := true }, kinds := [], alts := [], laidByText := true, laidKinds := [.data, .pinned], laidTests := true, laidLooks := .later }
def ItemGroupsUptoCardSaid : Prop := Claim7.holds Tryz.pinned (.plain (OpenSpec.upto itemGroupsSpec)) itemGroupsUptoCard

/-- THE SECOND FORM's CARD OF 'abacistlaw15.ItemClusters'. -/
def itemClustersUptoCard : Claim7 := { stood := { row := itemClustersUptoRow, standIns := [], harness := (true, "7835c213e469c1e0e5967384db7a0ac134871518ee5e62cb669d0d8abb2376b9"), looks := true }, kinds := [], alts := [], laidByText := true, laidKinds := [.data, .pinned], laidTests := true, laidLooks := .later }
def ItemClustersUptoCardSaid : Prop := Claim7.holds Tryz.pinned (.plain (OpenSpec.upto itemClustersSpec)) itemClustersUptoCard

/-- THE SECOND FORM's CARD OF 'abacistlaw16.ViewStops'. -/
def viewStopsUptoCard : Claim7 := { stood := { row := viewStopsUptoRow, standIns := [], harness := (true, "7835c213e469c1e0e5967384db7a0ac134871518ee5e62cb669d0d8abb2376b9"), looks := true }, kinds := [], alts := [], laidByText := true, laidKinds := [.data, .pinned], laidTests := true, laidLooks := .later }
def ViewStopsUptoCardSaid : Prop := Claim7.holds Tryz.pinned (.plain (OpenSpec.upto viewStopsSpec)) viewStopsUptoCard

/-- THE SECOND FORM's CARD OF 'abacistlaw16.ViewSlices'. -/
def viewSlicesUptoCard : Claim7 := { stood := { row := viewSlicesUptoRow, standIns := [], harness := (true, "7835c213e469c1e0e5967384db7a0ac134871518ee5e62cb669d0d8abb2376b9"), looks := true }, kinds := [], alts := [], laidByText := true, laidKinds := [.data, .pinned], laidTests := true, laidLooks := .later }
def ViewSlicesUptoCardSaid : Prop := Claim7.holds Tryz.pinned (.plain (OpenSpec.upto viewSlicesSpec)) viewSlicesUptoCard

/-- THE SECOND FORM's CARD OF 'abacistlaw16.ViewBack'. -/
def viewBackUptoCard : Claim7 := { stood := { row := viewBackUptoRow, standIns := [], harness := (true, "7835c213e469c1e0e5967384db7a0ac134871518ee5e62cb669d0d8abb2376b9"), looks := true }, kinds := [], alts := [], laidByText := true, laidKinds := [.data, .pinned], laidTests := true, laidLooks := .later }
def ViewBackUptoCardSaid : Prop := Claim7.holds Tryz.pinned (.plain (OpenSpec.upto viewBackSpec)) viewBackUptoCard

/-- THE SECOND FORM's CARD OF 'abacistlaw16.ViewLegal'. -/
def viewLegalUptoCard : Claim7 := { stood := { row := viewLegalUptoRow, standIns := [], harness := (true, "7835c213e469c1e0e5967384db7a0ac134871518ee5e62cb669d0d8abb2376b9"), looks := true }, kinds := [], alts := [], laidByText := true, laidKinds := [.data, .pinned], laidTests := true, laidLooks := .later }
def ViewLegalUptoCardSaid : Prop := Claim7.holds Tryz.pinned (.plain (OpenSpec.upto viewLegalSpec)) viewLegalUptoCard

/-- THE SECOND FORM's CARD OF 'abacistlaw16.ViewBounds'. -/
def viewBoundsUptoCard : Claim7 := { stood := { row := viewBoundsUptoRow, standIns := [], harness := (true, "7835c213e469c1e0e5967384db7a0ac134871518ee5e62cb669d0d8abb2376b9"), looks := true }, kinds := [], alts := [], laidByText := true, laidKinds := [.data, .pinned], laidTests := true, laidLooks := .later }
def ViewBoundsUptoCardSaid : Prop := Claim7.holds Tryz.pinned (.plain (OpenSpec.upto viewBoundsSpec)) viewBoundsUptoCard

/-- THE SECOND FORM's CARD OF 'abacistlaw16.ViewNear'. -/
def viewNearUptoCard : Claim7 := { stood := { row := viewNearUptoRow, standIns := [], harness := (true, "7835c213e469c1e0e5967384db7a0ac134871518ee5e62cb669d0d8abb2376b9"), looks := true }, kinds := [], alts := [], laidByText := true, laidKinds := [.data, .pinned], laidTests := true, laidLooks := .later }
def ViewNearUptoCardSaid : Prop := Claim7.holds Tryz.pinned (.plain (OpenSpec.upto viewNearSpec)) viewNearUptoCard
end Rows
end Go.Proofs.YthoicieckodneaaGreatDoor
