/- The small memory: calls whose memory nobody sees, some of whose results nobody asks for. -/
import Derived.Test.YthhhkjbhhjcjoaaGreatDoorAbN
set_option linter.unusedSimpArgs false
set_option linter.unusedVariables false
namespace Go
open Go.RowKit
namespace Ab

/-- What is related to u is related to v, wherever blocks lie: v is u with parts of it left open. -/
def jle (v u : Value) : Prop := ∀ (ρ ρ' : Ren) (x : Value), VRel ρ u x → VRel ρ' v x
theorem jle_flat {v : Value} (h : flat v = true) : jle v v := fun ρ ρ' x hx => by
  rw [hx.of_flat h]
  exact .flat h
def FinJ (P : Program) (fn : Func) (v : Value) : Post := fun e t m' => (e = .ret ∨ e = .normal) ∧ ∃ vs, ResR P t m' fn.results.toList vs ∧ jle v (pack vs)
theorem FinJ.on {P : Program} {fn : Func} {v : Value} {x : Exit} {t : T} {m' : Mem} (h : FinJ P fn v x t m') : FinJ P fn v x t m' := h
theorem FinJ.ret {P : Program} {fn : Func} {v : Value} {t : T} {m' : Mem} {vs : List Value} (h : ResR P t m' fn.results.toList vs) (hj : jle v (pack vs)) : FinJ P fn v .ret t m' := ⟨.inl rfl, vs, h, hj⟩
theorem FinJ.end {P : Program} {fn : Func} {v : Value} {t : T} {m' : Mem} {vs : List Value} (h : ResR P t m' fn.results.toList vs) (hj : jle v (pack vs)) : FinJ P fn v .normal t m' := ⟨.inr rfl, vs, h, hj⟩
end Ab
end Go
