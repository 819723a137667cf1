/- Chapter 2 in plain Lean: the reference's point. -/
import Derived.Test.YthhhkjbhhjcjoaaGreatDoor02Spec5
set_option linter.unusedSimpArgs false
set_option linter.unusedVariables false
namespace Go.Ob
def kUp (l : List St) (t : Int) : Nat → Nat → Nat
  | 0, k => k
  | f + 1, k => if k + 2 < l.length ∧ (at_ l (k + 1)).t ≤ t then kUp l t f (k + 1) else k
def kR (l : List St) (t : Int) : Nat := kUp l t l.length 0
/-- What the reference says of a point. -/
structure PtR where
  a0 : Int
  a1 : Int
  a2 : Int
  wrong : Int
  bend : Int
  den : Int
def prR (bd : Int) (a b : St) (t : Int) : PtR :=
  ⟨a.x * (b.t - a.t - (t - a.t)) + b.x * (t - a.t), a.y * (b.t - a.t - (t - a.t)) + b.y * (t - a.t), a.z * (b.t - a.t - (t - a.t)) + b.z * (t - a.t), a.e * (b.t - a.t - (t - a.t)) + b.e * (t - a.t),
    if t - a.t ≠ 0 ∧ t - a.t ≠ b.t - a.t then bd * (b.t - a.t) else 0, b.t - a.t⟩
def ptR (bd : Int) (l : List St) (t : Int) : PtR := prR bd (at_ l (kR l t)) (at_ l (kR l t + 1)) t
/-- Where the reference's search ends. -/
theorem kR_spec {bd : Int} {l : List St} (h : Right bd l) {t : Int} (h0 : frstT l ≤ t) (h1 : t ≤ lastT l) : kR l t + 1 < l.length ∧ (at_ l (kR l t)).t ≤ t ∧ t ≤ (at_ l (kR l t + 1)).t := by
  have key : ∀ f k, k + f = l.length → k + 1 < l.length → (at_ l k).t ≤ t → kUp l t f k + 1 < l.length ∧ (at_ l (kUp l t f k)).t ≤ t ∧ t ≤ (at_ l (kUp l t f k + 1)).t := by
    intro f
    induction f with
    | zero => intro k h2 h3 h4; omega
    | succ f ih =>
      intro k h2 h3 h4
      simp only [kUp]
      split
      · rename_i hc; exact ih (k + 1) (by omega) (by omega) hc.2
      · rename_i hc
        refine ⟨h3, h4, ?_⟩
        by_cases h5 : k + 2 < l.length
        · have : ¬ (at_ l (k + 1)).t ≤ t := fun hh => hc ⟨h5, hh⟩
          omega
        · have : k + 1 = l.length - 1 := by omega
          unfold lastT at h1; rw [this]; exact h1
  exact key l.length 0 (by omega) (by have := h.n2; omega) h0
end Go.Ob
