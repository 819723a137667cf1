/- Chapter 2: Nearest of the program. -/
import Derived.Test.YthhhkjbhhjcjoaaGreatDoor02z
import Derived.Test.YthhhkjbhhjcjoaaGreatDoorFreeEach
set_option linter.unusedSimpArgs false
set_option linter.unusedVariables false
namespace Go.Proofs.YthhhkjbhhjcjoaaGreatDoor
open Go.RowKit Go.Ob Go.Shelf
attribute [local go_sem] Oper.semAt_some

end Go.Proofs.YthhhkjbhhjcjoaaGreatDoor
