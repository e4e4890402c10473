/-
  DERIVED. GIVEN WITH THE SEED: THE CARDS: each row of YtdkjkbbibdppoaaGreatDoorRows.lean that lists a variable, with what it lists TIED to the program's text (the seventh form; the later family's looks); each row that meets fmt, with fmt's text TOLD by the authors' own Lean function (tested against real Go, not proved from fmt's source: count such statements apart). THE CARD IS WHAT COUNTS. Prove the row's statement (the work); the ties are given (YtdkjkbbibdppoaaGreatDoorTie.lean); close each card by the builder's one call (the guide's Derived/Test/ToyasCard.lean, 'card_holds'). Laid BY PROGRAM, IN A SANDBOX (cutbox-door.mjs). By AI agents, Wed Nov 11 2026. No macro, syntax, notation, axiom, sorry.
-/
import Derived.Test.YtdkjkbbibdppoaaGreatDoorRows
import GoSem.ClaimSeven
namespace Go.Proofs.YtdkjkbbibdppoaaGreatDoor
namespace Rows

/-- THE TIED CARD OF 'abacistlaw10.PatternSame'. -/
def patternSameCard : Claim7 := { stood := { row := patternSameRow, standIns := [], harness := (true, "fab5aaa7f8d1c335b547fe433605db4ab4a5ac6503a6f151d88b33474a75a60d"), looks := true }, kinds := [], alts := [], laidByText := true, laidKinds := [.data, .pinned], laidTests := true, laidLooks := .later }
def PatternSameCardSaid : Prop := Claim7.holds Tryz.pinned (.plain (OpenSpec.ofChange patternSameSpec)) patternSameCard

/-- THE TIED CARD OF 'abacistlaw11.LocaleAround'. -/
def localeAroundCard : Claim7 := { stood := { row := localeAroundRow, standIns := [], harness := (true, "fab5aaa7f8d1c335b547fe433605db4ab4a5ac6503a6f151d88b33474a75a60d"), looks := true }, kinds := [], alts := [], laidByText := true, laidKinds := [.data, .pinned], laidTests := true, laidLooks := .later }
def LocaleAroundCardSaid : Prop := Claim7.holds Tryz.pinned (.plain (OpenSpec.ofChange localeAroundSpec)) localeAroundCard

/-- THE TIED CARD OF 'abacistlaw11.LocaleWords'. -/
def localeWordsCard : Claim7 := { stood := { row := localeWordsRow, standIns := [], harness := (true, "fab5aaa7f8d1c335b547fe433605db4ab4a5ac6503a6f151d88b33474a75a60d"), looks := true }, kinds := [], alts := [], laidByText := true, laidKinds := [.data, .pinned], laidTests := true, laidLooks := .later }
def LocaleWordsCardSaid : Prop := Claim7.holds Tryz.pinned (.plain (OpenSpec.ofChange localeWordsSpec)) localeWordsCard

/-- THE TIED CARD OF 'abacistlaw11.LocaleSigns'. -/
def localeSignsCard : Claim7 := { stood := { row := localeSignsRow, standIns := [], harness := (true, "fab5aaa7f8d1c335b547fe433605db4ab4a5ac6503a6f151d88b33474a75a60d"), looks := true }, kinds := [], alts := [], laidByText := true, laidKinds := [.data, .pinned], laidTests := true, laidLooks := .later }
def LocaleSignsCardSaid : Prop := Claim7.holds Tryz.pinned (.plain (OpenSpec.ofChange localeSignsSpec)) localeSignsCard

/-- THE TIED CARD OF 'abacistlaw11.LocaleApart'. -/
def localeApartCard : Claim7 := { stood := { row := localeApartRow, standIns := [], harness := (true, "fab5aaa7f8d1c335b547fe433605db4ab4a5ac6503a6f151d88b33474a75a60d"), looks := true }, kinds := [], alts := [], laidByText := true, laidKinds := [.data, .pinned], laidTests := true, laidLooks := .later }
def LocaleApartCardSaid : Prop := Claim7.holds Tryz.pinned (.plain (OpenSpec.ofChange localeApartSpec)) localeApartCard

/-- THE TIED CARD OF 'abacistlaw11.LocaleTold'. -/
def localeToldCard : Claim7 := { stood := { row := localeToldRow, standIns := [], harness := (true, "fab5aaa7f8d1c335b547fe433605db4ab4a5ac6503a6f151d88b33474a75a60d"), looks := true }, kinds := [], alts := [], laidByText := true, laidKinds := [.data, .pinned], laidTests := true, laidLooks := .later }
def LocaleToldCardSaid : Prop := Claim7.holds Tryz.pinned (.plain (OpenSpec.ofChange localeToldSpec)) localeToldCard

/-- THE TIED CARD OF 'abacistlaw12.FortyNone'. -/
def fortyNoneCard : Claim7 := { stood := { row := fortyNoneRow, standIns := [], harness := (true, "fab5aaa7f8d1c335b547fe433605db4ab4a5ac6503a6f151d88b33474a75a60d"), looks := true }, kinds := [], alts := [], laidByText := true, laidKinds := [.data, .pinned], laidTests := true, laidLooks := .later }
def FortyNoneCardSaid : Prop := Claim7.holds Tryz.pinned (.plain (OpenSpec.ofChange fortyNoneSpec)) fortyNoneCard

/-- THE TIED CARD OF 'abacistlaw12.FortyMay'. -/
def fortyMayCard : Claim7 := { stood := { row := fortyMayRow, standIns := [], harness := (true, "fab5aaa7f8d1c335b547fe433605db4ab4a5ac6503a6f151d88b33474a75a60d"), looks := true }, kinds := [], alts := [], laidByText := true, laidKinds := [.data, .pinned], laidTests := true, laidLooks := .later }
def FortyMayCardSaid : Prop := Claim7.holds Tryz.pinned (.plain (OpenSpec.ofChange fortyMaySpec)) fortyMayCard

/-- THE SECOND FORM's CARD OF 'abacistlaw10.PatternSame'. -/
def patternSameUptoCard : Claim7 := { stood := { row := patternSameUptoRow, standIns := [], harness := (true, "fab5aaa7f8d1c335b547fe433605db4ab4a5ac6503a6f151d88b33474a75a60d"), looks := true }, kinds := [], alts := [], laidByText := true, laidKinds := [.data, .pinned], laidTests := true, laidLooks := .later }
def PatternSameUptoCardSaid : Prop := Claim7.holds Tryz.pinned (.plain (OpenSpec.upto patternSameSpec)) patternSameUptoCard

/-- THE SECOND FORM's CARD OF 'abacistlaw11.LocaleAround'. -/
def localeAroundUptoCard : Claim7 := { stood := { row := localeAroundUptoRow, standIns := [], harness := (true, "fab5aaa7f8d1c335b547fe433605db4ab4a5ac6503a6f151d88b33474a75a60d"), looks := true }, kinds := [], alts := [], laidByText := true, laidKinds := [.data, .pinned], laidTests := true, laidLooks := .later }
def LocaleAroundUptoCardSaid : Prop := Claim7.holds Tryz.pinned (.plain (OpenSpec.upto localeAroundSpec)) localeAroundUptoCard

/-- THE SECOND FORM's CARD OF 'abacistlaw11.LocaleWords'. -/
def localeWordsUptoCard : Claim7 := { stood := { row := localeWordsUptoRow, standIns := [], harness := (true, "fab5aaa7f8d1c335b547fe433605db4ab4a5ac6503a6f151d88b33474a75a60d"), looks := true }, kinds := [], alts := [], laidByText := true, laidKinds := [.data, .pinned], laidTests := true, laidLooks := .later }
def LocaleWordsUptoCardSaid : Prop := Claim7.holds Tryz.pinned (.plain (OpenSpec.upto localeWordsSpec)) localeWordsUptoCard

/-- THE SECOND FORM's CARD OF 'abacistlaw11.LocaleSigns'. -/
def localeSignsUptoCard : Claim7 := { stood := { row := localeSignsUptoRow, standIns := [], harness := (true, "fab5aaa7f8d1c335b547fe433605db4ab4a5ac6503a6f151d88b33474a75a60d"), looks := true }, kinds := [], alts := [], laidByText := true, laidKinds := [.data, .pinned], laidTests := true, laidLooks := .later }
def LocaleSignsUptoCardSaid : Prop := Claim7.holds Tryz.pinned (.plain (OpenSpec.upto localeSignsSpec)) localeSignsUptoCard

/-- THE SECOND FORM's CARD OF 'abacistlaw11.LocaleApart'. -/
def localeApartUptoCard : Claim7 := { stood := { row := localeApartUptoRow, standIns := [], harness := (true, "fab5aaa7f8d1c335b547fe433605db4ab4a5ac6503a6f151d88b33474a75a60d"), looks := true }, kinds := [], alts := [], laidByText := true, laidKinds := [.data, .pinned], laidTests := true, laidLooks := .later }
def LocaleApartUptoCardSaid : Prop := Claim7.holds Tryz.pinned (.plain (OpenSpec.upto localeApartSpec)) localeApartUptoCard

/-- THE SECOND FORM's CARD OF 'abacistlaw11.LocaleTold'. -/
def localeToldUptoCard : Claim7 := { stood := { row := localeToldUptoRow, standIns := [], harness := (true, "fab5aaa7f8d1c335b547fe433605db4ab4a5ac6503a6f151d88b33474a75a60d"), looks := true }, kinds := [], alts := [], laidByText := true, laidKinds := [.data, .pinned], laidTests := true, laidLooks := .later }
def LocaleToldUptoCardSaid : Prop := Claim7.holds Tryz.pinned (.plain (OpenSpec.upto localeToldSpec)) localeToldUptoCard

/-- THE SECOND FORM's CARD OF 'abacistlaw12.FortyNone'. -/
def fortyNoneUptoCard : Claim7 := { stood := { row := fortyNoneUptoRow, standIns := [], harness := (true, "fab5aaa7f8d1c335b547fe433605db4ab4a5ac6503a6f151d88b33474a75a60d"), looks := true }, kinds := [], alts := [], laidByText := true, laidKinds := [.data, .pinned], laidTests := true, laidLooks := .later }
def FortyNoneUptoCardSaid : Prop := Claim7.holds Tryz.pinned (.plain (OpenSpec.upto fortyNoneSpec)) fortyNoneUptoCard

/-- THE SECOND FORM's CARD OF 'abacistlaw12.FortyMay'. -/
def fortyMayUptoCard : Claim7 := { stood := { row := fortyMayUptoRow, standIns := [], harness := (true, "fab5aaa7f8d1c335b547fe433605db4ab4a5ac6503a6f151d88b33474a75a60d"), looks := true }, kinds := [], alts := [], laidByText := true, laidKinds := [.data, .pinned], laidTests := true, laidLooks := .later }
def FortyMayUptoCardSaid : Prop := Claim7.holds Tryz.pinned (.plain (OpenSpec.upto fortyMaySpec)) fortyMayUptoCard
end Rows
end Go.Proofs.YtdkjkbbibdppoaaGreatDoor
