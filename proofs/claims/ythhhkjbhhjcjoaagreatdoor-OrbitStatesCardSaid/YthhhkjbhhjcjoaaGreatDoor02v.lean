/- Chapter 2: the reference's nominal place and box. -/
import Derived.Test.YthhhkjbhhjcjoaaGreatDoor02u
set_option linter.unusedSimpArgs false
set_option linter.unusedVariables false
namespace Go.Proofs.YthhhkjbhhjcjoaaGreatDoor
open Go.RowKit Go.Ob

end Go.Proofs.YthhhkjbhhjcjoaaGreatDoor
namespace Go.Ob
structure PtR.Ok (p : PtR) : Prop where
  o0 : 1 ≤ p.den
  o1 : p.den ≤ 20000
  a00 : -4000000000000 ≤ p.a0
  a01 : p.a0 ≤ 4000000000000
  a10 : -4000000000000 ≤ p.a1
  a11 : p.a1 ≤ 4000000000000
  a20 : -4000000000000 ≤ p.a2
  a21 : p.a2 ≤ 4000000000000
  w0 : 0 ≤ p.wrong
  w1 : p.wrong ≤ 4000000000
  b0 : 0 ≤ p.bend
  b1 : p.bend ≤ 2000000000
end Go.Ob
namespace Go.Proofs.YthhhkjbhhjcjoaaGreatDoor
open Go.RowKit Go.Ob

def rNom (p : PtR) : P3 := ⟨rd p.a0 p.den, rd p.a1 p.den, rd p.a2 p.den⟩
def rBx (p : PtR) : Bx := ⟨dn p.a0 (p.wrong + p.bend) p.den, up p.a0 (p.wrong + p.bend) p.den, dn p.a1 (p.wrong + p.bend) p.den, up p.a1 (p.wrong + p.bend) p.den, dn p.a2 (p.wrong + p.bend) p.den, up p.a2 (p.wrong + p.bend) p.den⟩

end Go.Proofs.YthhhkjbhhjcjoaaGreatDoor
