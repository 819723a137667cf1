/- Chapter 2: runs of ticks; Passes of the program. -/
import Derived.Test.YthhhkjbhhjcjoaaGreatDoor02B
import Derived.Test.YthhhkjbhhjcjoaaGreatDoor02Own
import Derived.Shelf.Abstract
set_option linter.unusedSimpArgs false
set_option linter.unusedVariables false
namespace Go.Proofs.YthhhkjbhhjcjoaaGreatDoor
open Go.RowKit Go.Ob Go.Shelf

/-- The rows that are kept while a list of ranges is made. -/
theorem flatR_snoc (l : List (Int × Int)) (r : Int × Int) : flatR (l ++ [r]) = flatR l ++ [.int .i64 r.1, .int .i64 r.2] := by simp [flatR, rgC]
theorem grow_nil (t : Int) : grow [] t = [(t, t)] := rfl
theorem grow_last (l : List (Int × Int)) (a b t : Int) (h : b = t - 1) : grow (l ++ [(a, b)]) t = l ++ [(a, t)] := by simp [grow, h]
theorem grow_new (l : List (Int × Int)) (a b t : Int) (h : ¬ b = t - 1) : grow (l ++ [(a, b)]) t = l ++ [(a, b)] ++ [(t, t)] := by simp [grow, h]
theorem runTo_len (is : Int → Bool) (a : Int) : ∀ k, (runTo is a k).length ≤ k
  | 0 => by simp [runTo]
  | k + 1 => by
    have ih := runTo_len is a k
    simp only [runTo]
    split
    · rcases List.eq_nil_or_concat (runTo is a k) with h | ⟨l, r, h⟩
      · rw [h]; simp [grow]
      · rw [h] at ih ⊢
        obtain ⟨r1, r2⟩ := r
        rw [List.concat_eq_append] at ih ⊢
        simp only [List.length_append, List.length_cons, List.length_nil] at ih
        by_cases e : r2 = a + k - 1
        · rw [grow_last _ _ _ _ e]; simp; omega
        · rw [grow_new _ _ _ _ e]; simp; omega
    · omega
theorem runTo_no {is : Int → Bool} {a : Int} {k : Nat} (h : is (a + k) = false) : runTo is a (k + 1) = runTo is a k := by simp [runTo, h]
theorem runTo_yes {is : Int → Bool} {a : Int} {k : Nat} (h : is (a + k) = true) : runTo is a (k + 1) = grow (runTo is a k) (a + k) := by simp [runTo, h]

end Go.Proofs.YthhhkjbhhjcjoaaGreatDoor
