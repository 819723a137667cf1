/- Chapter 2: the reference's CheckOrbit. -/
import Derived.Test.YthhhkjbhhjcjoaaGreatDoor02s
set_option linter.unusedSimpArgs false
set_option linter.unusedVariables false
namespace Go.Proofs.YthhhkjbhhjcjoaaGreatDoor
open Go.RowKit Go.Ob

end Go.Proofs.YthhhkjbhhjcjoaaGreatDoor
