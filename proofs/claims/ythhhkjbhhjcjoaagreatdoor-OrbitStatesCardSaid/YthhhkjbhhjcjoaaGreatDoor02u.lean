/- Chapter 2: the reference's point. -/
import Derived.Test.YthhhkjbhhjcjoaaGreatDoor02t
import Derived.Test.YthhhkjbhhjcjoaaGreatDoor02Spec6
import Derived.Deep.DeepCutAuto
import Derived.Deep.CutBlock
set_option linter.unusedSimpArgs false
set_option linter.unusedVariables false
namespace Go.Proofs.YthhhkjbhhjcjoaaGreatDoor
open Go.RowKit Go.Ob

end Go.Proofs.YthhhkjbhhjcjoaaGreatDoor
