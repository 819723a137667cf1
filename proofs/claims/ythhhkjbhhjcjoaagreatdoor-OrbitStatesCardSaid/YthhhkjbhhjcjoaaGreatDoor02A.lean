/- Chapter 2: the small functions of the statements: Few, Brief, tickErr; ranges compared. -/
import Derived.Test.YthhhkjbhhjcjoaaGreatDoor02y
set_option linter.unusedSimpArgs false
set_option linter.unusedVariables false
namespace Go.Proofs.YthhhkjbhhjcjoaaGreatDoor
open Go.RowKit Go.Ob

end Go.Proofs.YthhhkjbhhjcjoaaGreatDoor
