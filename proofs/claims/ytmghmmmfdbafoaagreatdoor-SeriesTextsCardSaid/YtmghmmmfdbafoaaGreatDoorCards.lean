/-
  DERIVED. GIVEN WITH THE SEED: THE CARDS: each row of YtmghmmmfdbafoaaGreatDoorRows.lean that lists a variable, with what it lists TIED to the program's text (the seventh form; the later family's looks); each row that meets fmt, with fmt's text TOLD by the authors' own Lean function (tested against real Go, not proved from fmt's source: count such statements apart). THE CARD IS WHAT COUNTS. Prove the row's statement (the work); the ties are given (YtmghmmmfdbafoaaGreatDoorTie.lean); close each card by the builder's one call (the guide's Derived/Test/ToyasCard.lean, 'card_holds'). Laid BY PROGRAM, IN A SANDBOX (cutbox-door.mjs). By AI agents, Wed Nov 11 2026. No macro, syntax, notation, axiom, sorry.
-/
import Derived.Test.YtmghmmmfdbafoaaGreatDoorRows
import GoSem.ClaimSeven
namespace Go.Proofs.YtmghmmmfdbafoaaGreatDoor
namespace Rows

/-- THE TIED CARD OF 'swathlaw08.SeriesTexts'. -/
def seriesTextsCard : Claim7 := { stood := { row := seriesTextsRow, standIns := [], harness := (true, "8a7380d09317a7ebba329b5a0ece2b20c9872399362db35308890d1b5e904dd3"), looks := true }, kinds := [], alts := [], laidByText := true, laidKinds := [.data, .data, .data, .data, .sentinel, .sentinel, .pinned], laidTests := true, laidLooks := .later }
def SeriesTextsCardSaid : Prop := Claim7.holds Tryz.pinned (.plain (OpenSpec.ofChange seriesTextsSpec)) seriesTextsCard

/-- THE SECOND FORM's CARD OF 'swathlaw08.SeriesTexts'. -/
def seriesTextsUptoCard : Claim7 := { stood := { row := seriesTextsUptoRow, standIns := [], harness := (true, "8a7380d09317a7ebba329b5a0ece2b20c9872399362db35308890d1b5e904dd3"), looks := true }, kinds := [], alts := [], laidByText := true, laidKinds := [.data, .data, .data, .data, .sentinel, .sentinel, .pinned], laidTests := true, laidLooks := .later }
def SeriesTextsUptoCardSaid : Prop := Claim7.holds Tryz.pinned (.plain (OpenSpec.upto seriesTextsSpec)) seriesTextsUptoCard
end Rows
end Go.Proofs.YtmghmmmfdbafoaaGreatDoor
