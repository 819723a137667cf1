/- Chapter 2 in plain Lean: nearest ticks, passes. -/
import Derived.Test.YthhhkjbhhjcjoaaGreatDoor02Spec6
set_option linter.unusedSimpArgs false
set_option linter.unusedVariables false
namespace Go.Ob
theorem rd_bd {n d B : Int} (hd : 1 ≤ d) (h0 : -(B * d) ≤ n) (h1 : n ≤ B * d) : -B ≤ rd n d ∧ rd n d ≤ B := by
  unfold rd
  constructor
  · refine Int.le_ediv_of_mul_le (by omega) ?_
    rw [Int.neg_mul, show B * (2 * d) = 2 * (B * d) by rw [Int.mul_left_comm]]
    omega
  · have : (2 * n + d) / (2 * d) < B + 1 := Int.ediv_lt_of_lt_mul (by omega) (by rw [Int.add_mul, show B * (2 * d) = 2 * (B * d) by rw [Int.mul_left_comm]]; omega)
    omega
def dsq (p : P3) (x y z : Int) : Int := (p.x - x) * (p.x - x) + (p.y - y) * (p.y - y) + (p.z - z) * (p.z - z)
def nsq (l : List St) (x y z t : Int) : Int := dsq (nom l t) x y z
/-- The first nearest of the first k numbers from a number on. -/
def nearTo (f : Int → Int) (a : Int) : Nat → Int × Int
  | 0 => (0, -1)
  | k + 1 => if (nearTo f a k).2 < 0 ∨ f (a + k) < (nearTo f a k).2 then (a + k, f (a + k)) else nearTo f a k
def nTicks (l : List St) : Nat := (lastT l + 1 - frstT l).toNat
def plE (nm : List UInt8) (bd : Int) (l : List St) (x y z : Int) : Int := firstE [(orbE nm bd l).2, placeE x y z]
def nearOr (nm : List UInt8) (bd : Int) (l : List St) (x y z : Int) : Int × Int := if plE nm bd l x y z = 0 then nearTo (nsq l x y z) (frstT l) (nTicks l) else (0, 0)
theorem nearTo_yes {f : Int → Int} {a : Int} {k : Nat} (h : (nearTo f a k).2 < 0 ∨ f (a + k) < (nearTo f a k).2) : nearTo f a (k + 1) = (a + k, f (a + k)) := by
  simp only [nearTo]; rw [if_pos h]
theorem nearTo_no {f : Int → Int} {a : Int} {k : Nat} (h : ¬ ((nearTo f a k).2 < 0 ∨ f (a + k) < (nearTo f a k).2)) : nearTo f a (k + 1) = nearTo f a k := by
  simp only [nearTo]; rw [if_neg h]
theorem nearTo_zero (f : Int → Int) (a : Int) : nearTo f a 0 = (0, -1) := rfl
/-- Ranges with one number more behind them. -/
def grow (l : List (Int × Int)) (t : Int) : List (Int × Int) :=
  match l.getLast? with
  | some r => if r.2 = t - 1 then l.dropLast ++ [(r.1, t)] else l ++ [(t, t)]
  | none => [(t, t)]
def runTo (is : Int → Bool) (a : Int) : Nat → List (Int × Int)
  | 0 => []
  | k + 1 => if is (a + k) = true then grow (runTo is a k) (a + k) else runTo is a k
end Go.Ob
