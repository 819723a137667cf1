/-
  DERIVED. GIVEN WITH THE SEED: THE CARDS: each row of YthgbincoppnpgaaDoorRows.lean that lists a variable, with what it lists TIED to the program's text (the seventh form; the later family's looks); each row that meets fmt, with fmt's text TOLD by the authors' own Lean function (tested against real Go, not proved from fmt's source: count such statements apart). THE CARD IS WHAT COUNTS. Prove the row's statement (the work); the ties are given (YthgbincoppnpgaaDoorTie.lean); close each card by the builder's one call (the guide's Derived/Test/ToyasCard.lean, 'card_holds'). Laid BY PROGRAM, IN A SANDBOX (cutbox-door.mjs). By AI agents, Wed Nov 11 2026. No macro, syntax, notation, axiom, sorry.
-/
import Derived.Test.YthgbincoppnpgaaDoorRows
import GoSem.ClaimSeven
namespace Go.Proofs.YthgbincoppnpgaaDoor
namespace Rows

/-- THE TIED CARD OF 'swathlaw08.SeriesNormal'. -/
def seriesNormalCard : Claim7 := { stood := { row := seriesNormalRow, standIns := [], harness := (true, "8969422fb97db3702c4520d9637b9f7b9e0738f6e0149eba45d89b934ac60878"), looks := false }, kinds := [], alts := [], laidByText := true, laidKinds := [.widerDeep], laidTests := true, laidLooks := .later }
def SeriesNormalCardSaid : Prop := Claim7.holds Tryd.pinned (.plain (OpenSpec.ofChange seriesNormalSpec)) seriesNormalCard

/-- THE TIED CARD OF 'swathlaw08.SeriesRanks'. -/
def seriesRanksCard : Claim7 := { stood := { row := seriesRanksRow, standIns := [], harness := (true, "8969422fb97db3702c4520d9637b9f7b9e0738f6e0149eba45d89b934ac60878"), looks := false }, kinds := [], alts := [], laidByText := true, laidKinds := [.widerDeep], laidTests := true, laidLooks := .later }
def SeriesRanksCardSaid : Prop := Claim7.holds Tryd.pinned (.plain (OpenSpec.ofChange seriesRanksSpec)) seriesRanksCard

/-- THE SECOND FORM's CARD OF 'swathlaw08.SeriesNormal'. -/
def seriesNormalUptoCard : Claim7 := { stood := { row := seriesNormalUptoRow, standIns := [], harness := (true, "8969422fb97db3702c4520d9637b9f7b9e0738f6e0149eba45d89b934ac60878"), looks := false }, kinds := [], alts := [], laidByText := true, laidKinds := [.widerDeep], laidTests := true, laidLooks := .later }
def SeriesNormalUptoCardSaid : Prop := Claim7.holds Tryd.pinned (.plain (OpenSpec.upto seriesNormalSpec)) seriesNormalUptoCard

/-- THE SECOND FORM's CARD OF 'swathlaw08.SeriesRanks'. -/
def seriesRanksUptoCard : Claim7 := { stood := { row := seriesRanksUptoRow, standIns := [], harness := (true, "8969422fb97db3702c4520d9637b9f7b9e0738f6e0149eba45d89b934ac60878"), looks := false }, kinds := [], alts := [], laidByText := true, laidKinds := [.widerDeep], laidTests := true, laidLooks := .later }
def SeriesRanksUptoCardSaid : Prop := Claim7.holds Tryd.pinned (.plain (OpenSpec.upto seriesRanksSpec)) seriesRanksUptoCard
end Rows
end Go.Proofs.YthgbincoppnpgaaDoor
