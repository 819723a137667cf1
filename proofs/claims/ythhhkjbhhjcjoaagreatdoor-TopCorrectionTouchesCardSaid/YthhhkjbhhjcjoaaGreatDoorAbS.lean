/- The small memory: '==' of slices with nil. -/
import Derived.Test.YthhhkjbhhjcjoaaGreatDoorAbK
set_option linter.unusedSimpArgs false
set_option linter.unusedVariables false
namespace Go
namespace Ab
open Go.RowKit
section
variable {P : Program} {t : T} {m : Mem} {dst : Option Tmp} {ty ty' rt : TypeId} {pos : String} {after : Array Edge} {guard : Option (Nat × Bool)} {x y : Operand}
theorem VRel.sl_inv {ρ : Ren} {a : Option Addr} {n c : Nat} {v : Value} (h : VRel ρ (.slice a n c) v) : ∃ a' n' c', v = .slice a' n' c' ∧ a'.isNone = a.isNone := by
  cases h with
  | scal h => exact ⟨_, _, _, rfl, rfl⟩
  | slice h h1 h2 h3 => exact ⟨_, _, _, rfl, rfl⟩
  | empty => exact ⟨_, _, _, rfl, rfl⟩
  | lost => exact ⟨_, _, _, rfl, rfl⟩
theorem sl_eq {e ty : TypeId} {a : Option Addr} {n c : Nat} {w : World} (hs : P.underlying ty = some (.slice e)) : (Op.equal ty (.slice a n c) (.slice none 0 0)).run P w = .ok a.isNone w := by
  unfold Op.equal Op.maxDepth Op.equalIn
  cases a <;> simp [run_und hs, Sem.run_bind, Sem.run_pure]
theorem OQ.slnil {a : Option Addr} {n c : Nat} {e : TypeId} (hx : t.ev x = .slice a n c) (hy : t.ev y = .slice none 0 0) (hs : P.underlying ty = some (.slice e)) : OQ P ⟨dst, .binOp .eql ty x y ty', rt, pos, after, guard⟩ t m (.bool a.isNone) :=
  fun ρ a' w ht _ => by
    obtain ⟨b, n', c', hb, hn⟩ := VRel.sl_inv (hx ▸ ht.ev x)
    have hy' : a'.eval y = .slice none 0 0 := VRel.of_scal (hy ▸ ht.ev y) rfl
    refine ⟨_, .scal rfl, fun w' _ => ?_⟩
    have := sl_eq (a := b) (n := n') (c := c') (w := w') hs
    rw [hn] at this
    simp [execOp, hb, hy', eqGuard, binOp, Sem.run_bind, Sem.run_pure, this]
end
end Ab
end Go
