/- Chapter 2 in plain Lean: boxes are small. -/
import Derived.Test.YthhhkjbhhjcjoaaGreatDoor02Spec4
set_option linter.unusedSimpArgs false
set_option linter.unusedVariables false
namespace Go.Ob
theorem ediv_bd {n d B : Int} (hd : 1 ≤ d) (h0 : -(B * d) ≤ n) (h1 : n ≤ B * d) : -B ≤ n / d ∧ n / d ≤ B := by
  constructor
  · refine Int.le_ediv_of_mul_le (by omega) ?_; rw [Int.neg_mul]; exact h0
  · have : n / d < B + 1 := Int.ediv_lt_of_lt_mul (by omega) (by rw [Int.add_mul]; omega)
    omega
theorem dn_le_up {n off over : Int} (ho : 1 ≤ over) (hf : 0 ≤ off) : dn n off over ≤ up n off over := by
  unfold dn up
  have h1 := Int.mul_ediv_add_emod (n - off) over
  have h2 := Int.emod_nonneg (n - off) (show over ≠ 0 by omega)
  have h3 := Int.mul_ediv_add_emod (-(n + off)) over
  have h4 := Int.emod_nonneg (-(n + off)) (show over ≠ 0 by omega)
  have h5 : over * ((n - off) / over + -(n + off) / over) ≤ 0 := by rw [Int.mul_add]; omega
  rcases Int.lt_or_le 0 ((n - off) / over + -(n + off) / over) with h6 | h6
  · have := Int.mul_le_mul_of_nonneg_left (show 1 ≤ (n - off) / over + -(n + off) / over by omega) (show 0 ≤ over by omega)
    omega
  · omega
end Go.Ob
