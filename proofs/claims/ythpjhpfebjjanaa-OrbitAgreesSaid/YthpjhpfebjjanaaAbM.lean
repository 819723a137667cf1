/- The small memory: more operations. -/
import Derived.Test.YthpjhpfebjjanaaAbK
set_option linter.unusedSimpArgs false
set_option linter.unusedVariables false
namespace Go
open Go.RowKit
namespace Ab
section
variable {P : Program} {t : T} {m : Mem} {dst : Option Tmp} {rt ty ty' : TypeId} {pos : String} {after : Array Edge} {guard : Option (Nat × Bool)} {x y : Operand}

theorem run_eqb (hs : P.underlying ty = some .bool) (d : Nat) (a b : Bool) (w : World) : (Op.equalIn (d + 1) ty (.bool a) (.bool b)).run P w = .ok (a == b) w := by
  unfold Op.equalIn
  simp [Sem.run_bind, Sem.run_pure, run_und hs]
theorem run_eqb' (hs : P.underlying ty = some .bool) (a b : Bool) (w : World) : (Op.equalIn 10000 ty (.bool a) (.bool b)).run P w = .ok (a == b) w := run_eqb hs 9999 a b w
theorem OQ.boolne {a b : Bool} (hx : t.ev x = .bool a) (hy : t.ev y = .bool b) (hs : P.underlying ty = some .bool) : OQ P ⟨dst, .binOp .neq ty x y ty', rt, pos, after, guard⟩ t m (.bool (!(a == b))) :=
  fun ρ a' w ht _ => ⟨_, .scal rfl, fun w' _ => by
    simp [execOp, eqGuard, evb ht hx, evb ht hy, Sem.run_bind, Sem.run_pure, Result.andThen_ok, binOp, Op.equal, Op.maxDepth, run_eqb' hs]⟩
end
end Ab
end Go
