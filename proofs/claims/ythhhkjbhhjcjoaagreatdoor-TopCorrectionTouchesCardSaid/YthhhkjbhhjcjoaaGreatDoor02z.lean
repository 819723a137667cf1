/- Chapter 2: the ticks of an orbit, one by one. -/
import Derived.Test.YthhhkjbhhjcjoaaGreatDoor02y
import Derived.Test.YthhhkjbhhjcjoaaGreatDoor02Spec
import Derived.Test.YthhhkjbhhjcjoaaGreatDoorFreeEach
import Derived.Shelf.Abstract
import Derived.Shelf.RegionOpen
set_option linter.unusedSimpArgs false
set_option linter.unusedVariables false
namespace Go.Proofs.YthhhkjbhhjcjoaaGreatDoor
open Go.RowKit Go.Ob Go.Shelf
attribute [local go_sem] Oper.semAt_some

end Go.Proofs.YthhhkjbhhjcjoaaGreatDoor
