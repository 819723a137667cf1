/-
  DERIVED. GIVEN WITH THE SEED: THE CARDS: each row of YthhhkjbhhjcjoaaGreatDoorRows.lean that lists a variable, with what it lists TIED to the program's text (the seventh form; the later family's looks); each row that meets fmt, with fmt's text TOLD by the authors' own Lean function (tested against real Go, not proved from fmt's source: count such statements apart). THE CARD IS WHAT COUNTS. Prove the row's statement (the work); the ties are given (YthhhkjbhhjcjoaaGreatDoorTie.lean); close each card by the builder's one call (the guide's Derived/Test/ToyasCard.lean, 'card_holds'). Laid BY PROGRAM, IN A SANDBOX (cutbox-door.mjs). By AI agents, Wed Nov 11 2026. No macro, syntax, notation, axiom, sorry.
-/
import Derived.Test.YthhhkjbhhjcjoaaGreatDoorRows
import GoSem.ClaimSeven
namespace Go.Proofs.YthhhkjbhhjcjoaaGreatDoor
namespace Rows

/-- THE TIED CARD OF 'swathlaw02.OrbitStates'. -/
def orbitStatesCard : Claim7 := { stood := { row := orbitStatesRow, standIns := [], harness := (true, "aa15a959c40d984798b0c7b1f12d25e5d1da24be744a3f885328d822e7a838a4"), looks := true }, kinds := [], alts := [], laidByText := true, laidKinds := [.data, .data, .data, .data, .sentinel, .sentinel, .pinned], laidTests := true, laidLooks := .later }
def OrbitStatesCardSaid : Prop := Claim7.holds Tryz.pinned (.plain (OpenSpec.ofChange orbitStatesSpec)) orbitStatesCard

/-- THE TIED CARD OF 'swathlaw02.OrbitTexts'. -/
def orbitTextsCard : Claim7 := { stood := { row := orbitTextsRow, standIns := [], harness := (true, "aa15a959c40d984798b0c7b1f12d25e5d1da24be744a3f885328d822e7a838a4"), looks := true }, kinds := [], alts := [], laidByText := true, laidKinds := [.data, .data, .data, .sentinel, .sentinel], laidTests := true, laidLooks := .later }
def OrbitTextsCardSaid : Prop := Claim7.holds Tryz.pinned (.plain (OpenSpec.ofChange orbitTextsSpec)) orbitTextsCard

/-- THE TIED CARD OF 'swathtop.TopCorrectionTouches'. -/
def topCorrectionTouchesCard : Claim7 := { stood := { row := topCorrectionTouchesRow, standIns := [], harness := (true, "aa15a959c40d984798b0c7b1f12d25e5d1da24be744a3f885328d822e7a838a4"), looks := true }, kinds := [], alts := [], laidByText := true, laidKinds := [.data, .data, .data, .data, .sentinel, .sentinel, .pinned], laidTests := true, laidLooks := .later }
def TopCorrectionTouchesCardSaid : Prop := Claim7.holds Tryz.pinned (.plain (OpenSpec.ofChange topCorrectionTouchesSpec)) topCorrectionTouchesCard

/-- THE SECOND FORM's CARD OF 'swathlaw02.OrbitStates'. -/
def orbitStatesUptoCard : Claim7 := { stood := { row := orbitStatesUptoRow, standIns := [], harness := (true, "aa15a959c40d984798b0c7b1f12d25e5d1da24be744a3f885328d822e7a838a4"), looks := true }, kinds := [], alts := [], laidByText := true, laidKinds := [.data, .data, .data, .data, .sentinel, .sentinel, .pinned], laidTests := true, laidLooks := .later }
def OrbitStatesUptoCardSaid : Prop := Claim7.holds Tryz.pinned (.plain (OpenSpec.upto orbitStatesSpec)) orbitStatesUptoCard

/-- THE SECOND FORM's CARD OF 'swathlaw02.OrbitTexts'. -/
def orbitTextsUptoCard : Claim7 := { stood := { row := orbitTextsUptoRow, standIns := [], harness := (true, "aa15a959c40d984798b0c7b1f12d25e5d1da24be744a3f885328d822e7a838a4"), looks := true }, kinds := [], alts := [], laidByText := true, laidKinds := [.data, .data, .data, .sentinel, .sentinel], laidTests := true, laidLooks := .later }
def OrbitTextsUptoCardSaid : Prop := Claim7.holds Tryz.pinned (.plain (OpenSpec.upto orbitTextsSpec)) orbitTextsUptoCard

/-- THE SECOND FORM's CARD OF 'swathtop.TopCorrectionTouches'. -/
def topCorrectionTouchesUptoCard : Claim7 := { stood := { row := topCorrectionTouchesUptoRow, standIns := [], harness := (true, "aa15a959c40d984798b0c7b1f12d25e5d1da24be744a3f885328d822e7a838a4"), looks := true }, kinds := [], alts := [], laidByText := true, laidKinds := [.data, .data, .data, .data, .sentinel, .sentinel, .pinned], laidTests := true, laidLooks := .later }
def TopCorrectionTouchesUptoCardSaid : Prop := Claim7.holds Tryz.pinned (.plain (OpenSpec.upto topCorrectionTouchesSpec)) topCorrectionTouchesUptoCard
end Rows
end Go.Proofs.YthhhkjbhhjcjoaaGreatDoor
