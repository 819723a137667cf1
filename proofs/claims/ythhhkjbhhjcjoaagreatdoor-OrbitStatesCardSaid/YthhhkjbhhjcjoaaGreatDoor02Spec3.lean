/- Chapter 2 in plain Lean: where the search ends. -/
import Derived.Test.YthhhkjbhhjcjoaaGreatDoor02Spec2
set_option linter.unusedSimpArgs false
set_option linter.unusedVariables false
namespace Go.Ob
theorem idx_take (l : List St) (t : Int) : ∀ k, k < idx l t → (at_ l k).t < t := by
  unfold idx
  induction l with
  | nil => intro k hk; simp at hk
  | cons s l ih =>
    intro k hk
    rw [List.takeWhile_cons] at hk
    split at hk
    · rename_i hs
      cases k with
      | zero => simpa [at_] using hs
      | succ k => have := ih k (by simpa using hk); simpa [at_] using this
    · simp at hk
theorem idx_stop (l : List St) (t : Int) (h : idx l t < l.length) : t ≤ (at_ l (idx l t)).t := by
  unfold idx at *
  induction l with
  | nil => simp at h
  | cons s l ih =>
    rw [List.takeWhile_cons] at h ⊢
    by_cases hs : s.t < t
    · rw [if_pos (by simpa using hs)] at h ⊢
      have := ih (by simpa using h)
      simpa [at_] using this
    · rw [if_neg (by simpa using hs)]; simp [at_]; omega
theorem idx_lt {bd : Int} {l : List St} (h : Right bd l) {t : Int} (ht : t ≤ lastT l) : idx l t < l.length := by
  have hn := h.n2
  rcases Nat.lt_or_ge (idx l t) l.length with h1 | h1
  · exact h1
  · have := idx_take l t (l.length - 1) (by omega); unfold lastT at ht; omega
theorem idx_pos {l : List St} {t : Int} (ht : frstT l ≤ t) (hn : idx l t < l.length) (hne : ¬ (at_ l (idx l t)).t = t) : 1 ≤ idx l t := by
  rcases Nat.eq_zero_or_pos (idx l t) with h1 | h1
  · have := idx_stop l t hn; rw [h1] at this hne; unfold frstT at ht; omega
  · exact h1
def ptB (a b : St) (t : Int) : Pt := ⟨a.x * (b.t - a.t - (t - a.t)) + b.x * (t - a.t), a.y * (b.t - a.t - (t - a.t)) + b.y * (t - a.t), a.z * (b.t - a.t - (t - a.t)) + b.z * (t - a.t), a.e * (b.t - a.t - (t - a.t)) + b.e * (t - a.t), b.t - a.t, true⟩
theorem pt_bent {l : List St} {t : Int} (h : ¬ (at_ l (idx l t)).t = t) : pt l t = ptB (at_ l (idx l t - 1)) (at_ l (idx l t)) t := by unfold pt ptB; rw [if_neg h]
end Go.Ob
