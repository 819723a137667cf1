/- Chapter 2 in plain Lean, more: roots, the greatest common divisor, ticks. -/
import Derived.Test.YthhhkjbhhjcjoaaGreatDoor02Spec
set_option linter.unusedSimpArgs false
set_option linter.unusedVariables false
namespace Go.Ob
/-- The root, rounded down. -/
def rtN : Nat → Nat
  | 0 => 0
  | n + 1 => if (rtN n + 1) * (rtN n + 1) ≤ n + 1 then rtN n + 1 else rtN n
theorem rtN_spec : ∀ n, rtN n * rtN n ≤ n ∧ n < (rtN n + 1) * (rtN n + 1)
  | 0 => by simp [rtN]
  | n + 1 => by
    obtain ⟨h1, h2⟩ := rtN_spec n
    simp only [rtN]
    split
    · rename_i h
      refine ⟨h, ?_⟩
      have : (rtN n + 1 + 1) * (rtN n + 1 + 1) = (rtN n + 1) * (rtN n + 1) + 2 * (rtN n + 1) + 1 := by
        simp only [Nat.add_mul, Nat.mul_add]; omega
      omega
    · rename_i h; exact ⟨by omega, by omega⟩
theorem sq_le {a b : Nat} (h : a ≤ b) : a * a ≤ b * b := Nat.mul_le_mul h h
theorem rtN_unique {n r : Nat} (h1 : r * r ≤ n) (h2 : n < (r + 1) * (r + 1)) : rtN n = r := by
  obtain ⟨h3, h4⟩ := rtN_spec n
  rcases Nat.lt_trichotomy (rtN n) r with h | h | h
  · have := sq_le (a := rtN n + 1) (b := r) (by omega); omega
  · exact h
  · have := sq_le (a := r + 1) (b := rtN n) (by omega); omega
def rt (n : Int) : Int := (rtN n.toNat : Int)
def frstT (l : List St) : Int := (at_ l 0).t
def lastT (l : List St) : Int := (at_ l (l.length - 1)).t
/-- The error of an orbit and a tick. -/
def atE (nm : List UInt8) (bd : Int) (l : List St) (t : Int) : Int :=
  if (orbE nm bd l).2 ≠ 0 then (orbE nm bd l).2 else if frstT l ≤ t ∧ t ≤ lastT l then 0 else 2

/-- The search for a root, bit by bit. -/
structure RtInv (n r b : Nat) : Prop where
  lo : r * r ≤ n
  hi : n < (r + 2 * b) * (r + 2 * b) ∨ (b = 0 ∧ n < (r + 1) * (r + 1))
  pow : b = 0 ∨ ∃ k, b = 2 ^ k
theorem half_pow {b k : Nat} (h : b = 2 ^ k) : (b / 2 = 0 ∧ b = 1) ∨ (2 * (b / 2) = b ∧ ∃ k', b / 2 = 2 ^ k') := by
  cases k with
  | zero => left; simp at h; omega
  | succ k => right; rw [Nat.pow_succ] at h; exact ⟨by omega, k, by omega⟩
theorem RtInv.take {n r b : Nat} (h : RtInv n r b) (hb : 0 < b) (hx : (r + b) * (r + b) ≤ n) : RtInv n (r + b) (b / 2) := by
  have hhi : n < (r + 2 * b) * (r + 2 * b) := by rcases h.hi with h | h; exact h; omega
  rcases h.pow with h0 | ⟨k, hk⟩
  · omega
  rcases half_pow hk with ⟨h1, h2⟩ | ⟨h1, k', h2⟩
  · refine ⟨hx, .inr ⟨h1, ?_⟩, .inl h1⟩
    subst h2; rw [show r + 1 + 1 = r + 2 * 1 by omega]; exact hhi
  · refine ⟨hx, .inl ?_, .inr ⟨k', h2⟩⟩
    rw [show r + b + 2 * (b / 2) = r + 2 * b by omega]; exact hhi
theorem RtInv.done {n r : Nat} (h : RtInv n r 0) : rtN n = r := by
  rcases h.hi with h1 | ⟨_, h1⟩
  · have := h.lo; simp at h1; omega
  · exact rtN_unique h.lo h1
end Go.Ob
