/- Chapter 2: equality of arrays of ranges. -/
/- Chapter 2: the examples of the document. -/
import Derived.Test.YthhhkjbhhjcjoaaGreatDoor02Own
import Derived.Test.YthhhkjbhhjcjoaaGreatDoor02C
import Derived.Test.YthhhkjbhhjcjoaaGreatDoor02D
set_option linter.unusedSimpArgs false
set_option linter.unusedVariables false
section
namespace Go.Proofs.YthhhkjbhhjcjoaaGreatDoor
open Go.RowKit Go.Ob

theorem eq_range (d : Nat) (w : World) (a b a' b' : Int) : (Op.equalIn (d + 2) 60 (.agg #[.int .i64 a, .int .i64 b]) (.agg #[.int .i64 a', .int .i64 b'])).run Tryz.prog w = .ok (decide ((a, b) = (a', b'))) w := by
  go_simp
  by_cases h1 : a = a' <;> by_cases h2 : b = b' <;> simp [h1, h2]
set_option maxHeartbeats 1000000 in
theorem eq_box3 (d : Nat) (w : World) (a b c e f g a' b' c' e' f' g' : Int) : (Op.equalIn (d + 3) 64 (.agg #[.int .i64 a, .int .i64 b, .int .i64 c, .int .i64 e, .int .i64 f, .int .i64 g]) (.agg #[.int .i64 a', .int .i64 b', .int .i64 c', .int .i64 e', .int .i64 f', .int .i64 g'])).run Tryz.prog w = .ok (decide ((a, b, c, e, f, g) = (a', b', c', e', f', g'))) w := by
  have e0 := eq_range d
  have z : (Go.sizeOf 60).run Tryz.prog w = .ok 2 w := by go_simp
  unfold Op.equalIn
  simp [Tryz.underlying64, run_underlying, go_sem, List.range', List.forIn_cons, e0, z]
  by_cases h1 : a = a' <;> by_cases h2 : b = b' <;> by_cases h3 : c = c' <;> by_cases h4 : e = e' <;> by_cases h5 : f = f' <;> by_cases h6 : g = g' <;> simp [h1, h2, h3, h4, h5, h6]
theorem run_eq_box3 (w : World) (a b c e f g a' b' c' e' f' g' : Int) : (Op.equalIn 10000 64 (.agg #[.int .i64 a, .int .i64 b, .int .i64 c, .int .i64 e, .int .i64 f, .int .i64 g]) (.agg #[.int .i64 a', .int .i64 b', .int .i64 c', .int .i64 e', .int .i64 f', .int .i64 g'])).run Tryz.prog w = .ok (decide ((a, b, c, e, f, g) = (a', b', c', e', f', g'))) w := eq_box3 9997 w a b c e f g a' b' c' e' f' g'
attribute [go_sem] run_eq_box3
end Go.Proofs.YthhhkjbhhjcjoaaGreatDoor
end

section
namespace Go.Proofs.YthhhkjbhhjcjoaaGreatDoor
open Go.RowKit Go.Ob

theorem boxAt_val : bxOr pName.data.toList 2 passL 3 = ⟨11, 19, 2, 10, 96, 104⟩ ∧ atE pName.data.toList 2 passL 3 = 0 := by decide +kernel
end Go.Proofs.YthhhkjbhhjcjoaaGreatDoor
end
