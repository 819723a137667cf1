/- The small memory: more operations. -/
import Derived.Test.YthpjhpfebjjanaaAbK
set_option linter.unusedSimpArgs false
set_option linter.unusedVariables false
namespace Go
open Go.RowKit
namespace Ab
section
variable {P : Program} {t : T} {m : Mem} {dst : Option Tmp} {rt ty ty' : TypeId} {pos : String} {after : Array Edge} {guard : Option (Nat × Bool)} {x y : Operand}

theorem run_eqb (hs : P.underlying ty = some .bool) (d : Nat) (a b : Bool) (w : World) : (Op.equalIn (d + 1) ty (.bool a) (.bool b)).run P w = .ok (a == b) w := by
  unfold Op.equalIn
  simp [Sem.run_bind, Sem.run_pure, run_und hs]
theorem run_eqb' (hs : P.underlying ty = some .bool) (a b : Bool) (w : World) : (Op.equalIn 10000 ty (.bool a) (.bool b)).run P w = .ok (a == b) w := run_eqb hs 9999 a b w
theorem OQ.booleq {a b : Bool} (hx : t.ev x = .bool a) (hy : t.ev y = .bool b) (hs : P.underlying ty = some .bool) : OQ P ⟨dst, .binOp .eql ty x y ty', rt, pos, after, guard⟩ t m (.bool (a == b)) :=
  fun ρ a' w ht _ => ⟨_, .scal rfl, fun w' _ => by
    simp [execOp, eqGuard, evb ht hx, evb ht hy, Sem.run_bind, Sem.run_pure, Result.andThen_ok, binOp, Op.equal, Op.maxDepth, run_eqb' hs]⟩
theorem OQ.boolne {a b : Bool} (hx : t.ev x = .bool a) (hy : t.ev y = .bool b) (hs : P.underlying ty = some .bool) : OQ P ⟨dst, .binOp .neq ty x y ty', rt, pos, after, guard⟩ t m (.bool (!(a == b))) :=
  fun ρ a' w ht _ => ⟨_, .scal rfl, fun w' _ => by
    simp [execOp, eqGuard, evb ht hx, evb ht hy, Sem.run_bind, Sem.run_pure, Result.andThen_ok, binOp, Op.equal, Op.maxDepth, run_eqb' hs]⟩
/-- '[n]T(s)'. -/
theorem OQ.arrAt {b o n c k z : Nat} {g : Bool} (hx : t.ev x = .slice (some ⟨b, o, none⟩) n c) (hf : elemOf' P ty = some (some k, z, g)) (h0 : 0 < n) (h1 : k ≤ n) : OQ P ⟨dst, .sliceToArrayPointer ty x, rt, pos, after, guard⟩ t m (.pointer (some ⟨b, o, none⟩)) := by
  intro ρ a w ht hm
  obtain ⟨e, e1, e2, e3⟩ := elemOf_array hf
  rcases (hx ▸ ht.ev x).slice_inv with ⟨pl, c', hp, h2, _, _, e4⟩ | ⟨h, _⟩
  case inr => omega
  refine ⟨_, .ptr hp, fun w' _ => ?_⟩
  simp [execOp, Instr.arrayAt, e4, Sem.run_bind, Sem.run_pure, run_und e1, Nat.not_lt.2 h1]
end
end Ab
end Go
