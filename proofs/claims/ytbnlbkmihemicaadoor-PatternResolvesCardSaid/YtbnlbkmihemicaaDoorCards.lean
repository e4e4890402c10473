/-
  DERIVED. GIVEN WITH THE SEED: THE CARDS: each row of YtbnlbkmihemicaaDoorRows.lean that lists a variable, with what it lists TIED to the program's text (the seventh form; the later family's looks); each row that meets fmt, with fmt's text TOLD by the authors' own Lean function (tested against real Go, not proved from fmt's source: count such statements apart). THE CARD IS WHAT COUNTS. Prove the row's statement (the work); the ties are given (YtbnlbkmihemicaaDoorTie.lean); close each card by the builder's one call (the guide's Derived/Test/ToyasCard.lean, 'card_holds'). Laid BY PROGRAM, IN A SANDBOX (cutbox-door.mjs). By AI agents, Wed Nov 11 2026. No macro, syntax, notation, axiom, sorry.
-/
import Derived.Test.YtbnlbkmihemicaaDoorRows
import GoSem.ClaimSeven
namespace Go.Proofs.YtbnlbkmihemicaaDoor
namespace Rows

/-- THE TIED CARD OF 'abacistlaw10.PatternResolves'. -/
def patternResolvesCard : Claim7 := { stood := { row := patternResolvesRow, standIns := [], harness := (true, "9b63b0dd8339ac24ea523a938db417083670274d1a5a357136106e08b697532f"), looks := true }, kinds := [], alts := [], laidByText := true, laidKinds := [.data, .pinned], laidTests := true, laidLooks := .later }
def PatternResolvesCardSaid : Prop := Claim7.holds Tryd.pinned (.plain (OpenSpec.ofChange patternResolvesSpec)) patternResolvesCard

/-- THE TIED CARD OF 'abacistlaw10.PatternLong'. -/
def patternLongCard : Claim7 := { stood := { row := patternLongRow, standIns := [], harness := (true, "9b63b0dd8339ac24ea523a938db417083670274d1a5a357136106e08b697532f"), looks := true }, kinds := [], alts := [], laidByText := true, laidKinds := [.data, .pinned], laidTests := true, laidLooks := .later }
def PatternLongCardSaid : Prop := Claim7.holds Tryd.pinned (.plain (OpenSpec.ofChange patternLongSpec)) patternLongCard

/-- THE TIED CARD OF 'abacistlaw10.PatternHalves'. -/
def patternHalvesCard : Claim7 := { stood := { row := patternHalvesRow, standIns := [], harness := (true, "9b63b0dd8339ac24ea523a938db417083670274d1a5a357136106e08b697532f"), looks := true }, kinds := [], alts := [], laidByText := true, laidKinds := [.data, .pinned], laidTests := true, laidLooks := .later }
def PatternHalvesCardSaid : Prop := Claim7.holds Tryd.pinned (.plain (OpenSpec.ofChange patternHalvesSpec)) patternHalvesCard

/-- THE TIED CARD OF 'abacistlaw10.PatternQuotes'. -/
def patternQuotesCard : Claim7 := { stood := { row := patternQuotesRow, standIns := [], harness := (true, "9b63b0dd8339ac24ea523a938db417083670274d1a5a357136106e08b697532f"), looks := true }, kinds := [], alts := [], laidByText := true, laidKinds := [.data, .pinned], laidTests := true, laidLooks := .later }
def PatternQuotesCardSaid : Prop := Claim7.holds Tryd.pinned (.plain (OpenSpec.ofChange patternQuotesSpec)) patternQuotesCard

/-- THE SECOND FORM's CARD OF 'abacistlaw10.PatternResolves'. -/
def patternResolvesUptoCard : Claim7 := { stood := { row := patternResolvesUptoRow, standIns := [], harness := (true, "9b63b0dd8339ac24ea523a938db417083670274d1a5a357136106e08b697532f"), looks := true }, kinds := [], alts := [], laidByText := true, laidKinds := [.data, .pinned], laidTests := true, laidLooks := .later }
def PatternResolvesUptoCardSaid : Prop := Claim7.holds Tryd.pinned (.plain (OpenSpec.upto patternResolvesSpec)) patternResolvesUptoCard

/-- THE SECOND FORM's CARD OF 'abacistlaw10.PatternLong'. -/
def patternLongUptoCard : Claim7 := { stood := { row := patternLongUptoRow, standIns := [], harness := (true, "9b63b0dd8339ac24ea523a938db417083670274d1a5a357136106e08b697532f"), looks := true }, kinds := [], alts := [], laidByText := true, laidKinds := [.data, .pinned], laidTests := true, laidLooks := .later }
def PatternLongUptoCardSaid : Prop := Claim7.holds Tryd.pinned (.plain (OpenSpec.upto patternLongSpec)) patternLongUptoCard

/-- THE SECOND FORM's CARD OF 'abacistlaw10.PatternHalves'. -/
def patternHalvesUptoCard : Claim7 := { stood := { row := patternHalvesUptoRow, standIns := [], harness := (true, "9b63b0dd8339ac24ea523a938db417083670274d1a5a357136106e08b697532f"), looks := true }, kinds := [], alts := [], laidByText := true, laidKinds := [.data, .pinned], laidTests := true, laidLooks := .later }
def PatternHalvesUptoCardSaid : Prop := Claim7.holds Tryd.pinned (.plain (OpenSpec.upto patternHalvesSpec)) patternHalvesUptoCard

/-- THE SECOND FORM's CARD OF 'abacistlaw10.PatternQuotes'. -/
def patternQuotesUptoCard : Claim7 := { stood := { row := patternQuotesUptoRow, standIns := [], harness := (true, "9b63b0dd8339ac24ea523a938db417083670274d1a5a357136106e08b697532f"), looks := true }, kinds := [], alts := [], laidByText := true, laidKinds := [.data, .pinned], laidTests := true, laidLooks := .later }
def PatternQuotesUptoCardSaid : Prop := Claim7.holds Tryd.pinned (.plain (OpenSpec.upto patternQuotesSpec)) patternQuotesUptoCard
end Rows
end Go.Proofs.YtbnlbkmihemicaaDoor
