/- Chapter 8 in plain Lean: numbers. -/
namespace Go.Sr
def rngB (n lo hi : Int) : Bool := decide (lo ≤ n ∧ n ≤ hi)
theorem rngB_true {n lo hi : Int} : rngB n lo hi = true ↔ lo ≤ n ∧ n ≤ hi := decide_eq_true_iff
theorem rngB_false {n lo hi : Int} : rngB n lo hi = false ↔ ¬ (lo ≤ n ∧ n ≤ hi) := decide_eq_false_iff_not
theorem tdv_a {n b : Int} (h : n.tmod b = 0 ∨ 0 ≤ n) : n.tdiv b = n / b := by
  rw [Int.tdiv_eq_ediv]
  have : 0 ≤ n ∨ b ∣ n := h.elim (fun h => .inr (Int.dvd_of_tmod_eq_zero h)) .inl
  rw [if_pos this, Int.add_zero]
theorem tdv_b {n b : Int} (hb : 0 < b) (h : n.tmod b ≠ 0) (hn : n < 0) : n.tdiv b - 1 = n / b := by
  rw [Int.tdiv_eq_ediv]
  have : ¬ (0 ≤ n ∨ b ∣ n) := fun h' => h'.elim (fun h => by omega) (fun h' => h (Int.tmod_eq_zero_of_dvd h'))
  rw [if_neg this, Int.sign_eq_one_of_pos hb]
  omega
/-- A quotient lies between its numbers. -/
theorem tdv_bd {n b : Int} (_hb : 0 < b) {B : Int} (hB : 0 ≤ B) (h : -B ≤ n ∧ n ≤ B) : -B ≤ n.tdiv b ∧ n.tdiv b ≤ B := by
  have h1 : (n.tdiv b).natAbs ≤ n.natAbs := by
    rw [Int.natAbs_tdiv]
    exact Nat.div_le_self _ _
  omega
theorem ediv_bd {n b : Int} (hb : 0 < b) {B : Int} (hB : 0 ≤ B) (h : -B ≤ n ∧ n ≤ B) : -B ≤ n / b ∧ n / b ≤ B := by
  constructor
  · have : -B / 1 ≤ -B := by simp
    refine Int.le_ediv_of_mul_le hb ?_
    have : B * 1 ≤ B * b := Int.mul_le_mul_of_nonneg_left (by omega) hB
    rw [Int.neg_mul]
    omega
  · have : n / b < B + 1 := Int.ediv_lt_of_lt_mul hb (by
      have : (B + 1) * 1 ≤ (B + 1) * b := Int.mul_le_mul_of_nonneg_left (by omega) (by omega)
      omega)
    omega
theorem mul_bd {a b A B : Int} (hA : 0 ≤ A) (hB : 0 ≤ B) (ha : -A ≤ a ∧ a ≤ A) (hb : -B ≤ b ∧ b ≤ B) : -(A * B) ≤ a * b ∧ a * b ≤ A * B := by
  have h : (a * b).natAbs ≤ (A * B).natAbs := by
    rw [Int.natAbs_mul, Int.natAbs_mul]
    exact Nat.mul_le_mul (by omega) (by omega)
  have : 0 ≤ A * B := Int.mul_nonneg hA hB
  omega
end Go.Sr
