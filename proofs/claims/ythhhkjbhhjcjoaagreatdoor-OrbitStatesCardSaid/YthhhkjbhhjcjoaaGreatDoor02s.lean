/- Chapter 2: the reference's checks. -/
import Derived.Test.YthhhkjbhhjcjoaaGreatDoor02r
set_option linter.unusedSimpArgs false
set_option linter.unusedVariables false
namespace Go.Proofs.YthhhkjbhhjcjoaaGreatDoor
open Go.RowKit Go.Ob

end Go.Proofs.YthhhkjbhhjcjoaaGreatDoor
