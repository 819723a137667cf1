/- Greatest common divisors. -/
import Derived.Test.YthpjhpfebjjanaaAb
import Derived.Test.YthpjhpfebjjanaaProg
set_option linter.unusedSimpArgs false
set_option linter.unusedVariables false
namespace Go.Proofs.Ythpjhpfebjjanaa
open Go Go.RowKit Go.Ab
set_option maxRecDepth 100000

theorem gcd_step (a b : Int) : Int.gcd b (a.tmod b) = Int.gcd a b := by
  unfold Int.gcd
  rw [Int.natAbs_tmod, Nat.gcd_comm b.natAbs, ← Nat.gcd_rec, Nat.gcd_comm]
theorem gtmod_bd {a b M : Int} (ha : -M ≤ a ∧ a ≤ M) : -M ≤ a.tmod b ∧ a.tmod b ≤ M := by
  have h1 : (a.tmod b).natAbs ≤ a.natAbs := by rw [Int.natAbs_tmod]; exact Nat.mod_le _ _
  omega
theorem gtdiv_bd {a b M : Int} (ha : -M ≤ a ∧ a ≤ M) : -M ≤ a.tdiv b ∧ a.tdiv b ≤ M := by
  have h1 : (a.tdiv b).natAbs ≤ a.natAbs := by rw [Int.natAbs_tdiv]; exact Nat.div_le_self _ _
  omega
theorem gcd_abs (a : Int) : (if -a > a then -a else a) = (Int.gcd a 0 : Int) := by
  simp only [Int.gcd_zero]
  split <;> omega
theorem natAbs_tmod_lt {a b : Int} (h : b ≠ 0) : (a.tmod b).natAbs < b.natAbs := by
  rw [Int.natAbs_tmod]
  exact Nat.mod_lt _ (by omega)

theorem divisor_p : ∀ (k : Nat) (a b : Int), b.natAbs ≤ k → (-1000000000000000 ≤ a ∧ a ≤ 1000000000000000) → (-1000000000000000 ≤ b ∧ b ≤ 1000000000000000) → ∀ m : Mem, PCalls Try.prog 105 [.int .i64 a, .int .i64 b] m (.int .i64 (Int.gcd a b)) := by
  intro k
  induction k with
  | zero =>
    intro a b hk ha hb m
    have hb0 : b = 0 := by omega
    subst hb0
    refine PCalls.any ?_ rfl rfl m
    refine PCalls.enter (t := [.int .i64 a, .int .i64 0, undef, undef, undef, undef, undef, undef, undef, undef, undef, undef, undef, undef, undef, undef]) Try.func105 rfl (ro_nil) rfl fun E => ?_
    refine AW.seq ?_
    refine AW.region ?_
    refine AL.q rfl (OQ.assign (by conv => lhs; whnf)) ?_
    (conv => (arg 5; try simp only [T.put, T.ev, putAt, setsT, newBlks, fillL, List.map, List.set, List.append, List.cons_append, List.nil_append, List.length, List.getElem?_cons_zero, List.getElem?_cons_succ, Nat.reduceAdd, Nat.reduceMul, Nat.zero_add, Nat.add_zero, Nat.mul_one, Nat.zero_mul, List.drop, List.take, List.toList_toArray, Value.cells, Int.reduceToNat, Int.toNat_natCast, List.getD, Option.getD, Option.map, flat, flat1, scal, if_true, ↓reduceIte]))
    refine AL.nil ?_
    refine Then.n ?_
    refine AW.seq ?_
    refine AW.seq ?_
    refine AW.region ?_
    refine AL.q rfl (OQ.move (by conv => lhs; whnf)) ?_
    refine AL.q rfl (OQ.eql rfl rfl) ?_
    (conv => (arg 5; try simp only [T.put, T.ev, putAt, setsT, newBlks, fillL, List.map, List.set, List.append, List.cons_append, List.nil_append, List.length, List.getElem?_cons_zero, List.getElem?_cons_succ, Nat.reduceAdd, Nat.reduceMul, Nat.zero_add, Nat.add_zero, Nat.mul_one, Nat.zero_mul, List.drop, List.take, List.toList_toArray, Value.cells, Int.reduceToNat, Int.toNat_natCast, List.getD, Option.getD, Option.map, flat, flat1, scal, if_true, ↓reduceIte]))
    refine AL.nil ?_
    refine Then.n ?_
    refine AW.cond rfl (fun hc1 => ?_) (fun hc1 => ?_)
    · have hc1_ := hc1; (try simp only [decide_eq_true_eq, decide_eq_false_iff_not, Bool.not_true, Bool.not_false, Bool.not_eq_true', Bool.not_eq_false', Int.not_lt, Int.not_le, Classical.not_not, ne_eq] at hc1_)
      first
      | (exfalso; simp at hc1_; done)
      | (exfalso; simp at *; done)
      | skip
        refine AW.seq ?_
        refine AW.region ?_
        refine AL.q rfl (OQ.move (by conv => lhs; whnf)) ?_
        refine AL.q rfl (OQ.move (by conv => lhs; whnf)) ?_
        first | refine AL.q rfl (OQ.negi rfl (by omega)) ?_ | refine AL.q rfl (OQ.neg rfl) ?_
        refine AL.q rfl (OQ.max2 rfl rfl) ?_
        (conv => (arg 5; try simp only [T.put, T.ev, putAt, setsT, newBlks, fillL, List.map, List.set, List.append, List.cons_append, List.nil_append, List.length, List.getElem?_cons_zero, List.getElem?_cons_succ, Nat.reduceAdd, Nat.reduceMul, Nat.zero_add, Nat.add_zero, Nat.mul_one, Nat.zero_mul, List.drop, List.take, List.toList_toArray, Value.cells, Int.reduceToNat, Int.toNat_natCast, List.getD, Option.getD, Option.map, flat, flat1, scal, if_true, ↓reduceIte]))
        refine AL.q rfl (OQ.assign (by conv => lhs; whnf)) ?_
        (conv => (arg 5; try simp only [T.put, T.ev, putAt, setsT, newBlks, fillL, List.map, List.set, List.append, List.cons_append, List.nil_append, List.length, List.getElem?_cons_zero, List.getElem?_cons_succ, Nat.reduceAdd, Nat.reduceMul, Nat.zero_add, Nat.add_zero, Nat.mul_one, Nat.zero_mul, List.drop, List.take, List.toList_toArray, Value.cells, Int.reduceToNat, Int.toNat_natCast, List.getD, Option.getD, Option.map, flat, flat1, scal, if_true, ↓reduceIte]))
        refine AL.nil ?_
        refine Then.n ?_
        refine AW.ret ?_
        refine Then.r ?_
        refine FinP.ret (.tmp (by conv => lhs; whnf) .nil) ?_ rfl
        (try simp only [pack, List.drop, List.take])
        all_goals (exact congrArg _ (gcd_abs a))
    · have hc1_ := hc1; (try simp only [decide_eq_true_eq, decide_eq_false_iff_not, Bool.not_true, Bool.not_false, Bool.not_eq_true', Bool.not_eq_false', Int.not_lt, Int.not_le, Classical.not_not, ne_eq] at hc1_)
      first
      | (exfalso; simp at hc1_; done)
      | (exfalso; simp at *; done)
      | skip
        refine AW.skip ?_
        refine Then.n ?_
        refine AW.seq ?_
        refine AW.region ?_
        refine AL.q rfl (OQ.move (by conv => lhs; whnf)) ?_
        refine AL.q rfl (OQ.move (by conv => lhs; whnf)) ?_
        refine AL.q rfl (OQ.move (by conv => lhs; whnf)) ?_
        refine AL.q rfl (OQ.rem rfl rfl (by omega)) ?_
        (conv => (arg 5; try simp only [T.put, T.ev, putAt, setsT, newBlks, fillL, List.map, List.set, List.append, List.cons_append, List.nil_append, List.length, List.getElem?_cons_zero, List.getElem?_cons_succ, Nat.reduceAdd, Nat.reduceMul, Nat.zero_add, Nat.add_zero, Nat.mul_one, Nat.zero_mul, List.drop, List.take, List.toList_toArray, Value.cells, Int.reduceToNat, Int.toNat_natCast, List.getD, Option.getD, Option.map, flat, flat1, scal, if_true, ↓reduceIte]))
        refine AL.pcall rfl (by kernel_rfl) rfl (absurd (rfl : (0 : Int) = 0) (by simp_all)) ?_
        (conv => (arg 5; try simp only [T.put, T.ev, putAt, setsT, newBlks, fillL, List.map, List.set, List.append, List.cons_append, List.nil_append, List.length, List.getElem?_cons_zero, List.getElem?_cons_succ, Nat.reduceAdd, Nat.reduceMul, Nat.zero_add, Nat.add_zero, Nat.mul_one, Nat.zero_mul, List.drop, List.take, List.toList_toArray, Value.cells, Int.reduceToNat, Int.toNat_natCast, List.getD, Option.getD, Option.map, flat, flat1, scal, if_true, ↓reduceIte]))
        refine AL.q rfl (OQ.assign (by conv => lhs; whnf)) ?_
        (conv => (arg 5; try simp only [T.put, T.ev, putAt, setsT, newBlks, fillL, List.map, List.set, List.append, List.cons_append, List.nil_append, List.length, List.getElem?_cons_zero, List.getElem?_cons_succ, Nat.reduceAdd, Nat.reduceMul, Nat.zero_add, Nat.add_zero, Nat.mul_one, Nat.zero_mul, List.drop, List.take, List.toList_toArray, Value.cells, Int.reduceToNat, Int.toNat_natCast, List.getD, Option.getD, Option.map, flat, flat1, scal, if_true, ↓reduceIte]))
        refine AL.nil ?_
        refine Then.n ?_
        refine AW.ret ?_
        refine FinP.ret (.tmp (by conv => lhs; whnf) .nil) ?_ rfl
        (try simp only [pack, List.drop, List.take])
        all_goals (exact congrArg _ (gcd_abs a))
  | succ k ih =>
    intro a b hk ha hb m
    have h1 := gtmod_bd (b := b) ha
    refine PCalls.any ?_ rfl rfl m
    refine PCalls.enter (t := [.int .i64 a, .int .i64 b, undef, undef, undef, undef, undef, undef, undef, undef, undef, undef, undef, undef, undef, undef]) Try.func105 rfl (ro_nil) rfl fun E => ?_
    refine AW.seq ?_
    refine AW.region ?_
    refine AL.q rfl (OQ.assign (by conv => lhs; whnf)) ?_
    (conv => (arg 5; try simp only [T.put, T.ev, putAt, setsT, newBlks, fillL, List.map, List.set, List.append, List.cons_append, List.nil_append, List.length, List.getElem?_cons_zero, List.getElem?_cons_succ, Nat.reduceAdd, Nat.reduceMul, Nat.zero_add, Nat.add_zero, Nat.mul_one, Nat.zero_mul, List.drop, List.take, List.toList_toArray, Value.cells, Int.reduceToNat, Int.toNat_natCast, List.getD, Option.getD, Option.map, flat, flat1, scal, if_true, ↓reduceIte]))
    refine AL.nil ?_
    refine Then.n ?_
    refine AW.seq ?_
    refine AW.seq ?_
    refine AW.region ?_
    refine AL.q rfl (OQ.move (by conv => lhs; whnf)) ?_
    refine AL.q rfl (OQ.eql rfl rfl) ?_
    (conv => (arg 5; try simp only [T.put, T.ev, putAt, setsT, newBlks, fillL, List.map, List.set, List.append, List.cons_append, List.nil_append, List.length, List.getElem?_cons_zero, List.getElem?_cons_succ, Nat.reduceAdd, Nat.reduceMul, Nat.zero_add, Nat.add_zero, Nat.mul_one, Nat.zero_mul, List.drop, List.take, List.toList_toArray, Value.cells, Int.reduceToNat, Int.toNat_natCast, List.getD, Option.getD, Option.map, flat, flat1, scal, if_true, ↓reduceIte]))
    refine AL.nil ?_
    refine Then.n ?_
    refine AW.cond rfl (fun hc1 => ?_) (fun hc1 => ?_)
    · have hc1_ := hc1; (try simp only [decide_eq_true_eq, decide_eq_false_iff_not, Bool.not_true, Bool.not_false, Bool.not_eq_true', Bool.not_eq_false', Int.not_lt, Int.not_le, Classical.not_not, ne_eq] at hc1_)
      refine AW.seq ?_
      refine AW.region ?_
      refine AL.q rfl (OQ.move (by conv => lhs; whnf)) ?_
      refine AL.q rfl (OQ.move (by conv => lhs; whnf)) ?_
      first | refine AL.q rfl (OQ.negi rfl (by omega)) ?_ | refine AL.q rfl (OQ.neg rfl) ?_
      refine AL.q rfl (OQ.max2 rfl rfl) ?_
      (conv => (arg 5; try simp only [T.put, T.ev, putAt, setsT, newBlks, fillL, List.map, List.set, List.append, List.cons_append, List.nil_append, List.length, List.getElem?_cons_zero, List.getElem?_cons_succ, Nat.reduceAdd, Nat.reduceMul, Nat.zero_add, Nat.add_zero, Nat.mul_one, Nat.zero_mul, List.drop, List.take, List.toList_toArray, Value.cells, Int.reduceToNat, Int.toNat_natCast, List.getD, Option.getD, Option.map, flat, flat1, scal, if_true, ↓reduceIte]))
      refine AL.q rfl (OQ.assign (by conv => lhs; whnf)) ?_
      (conv => (arg 5; try simp only [T.put, T.ev, putAt, setsT, newBlks, fillL, List.map, List.set, List.append, List.cons_append, List.nil_append, List.length, List.getElem?_cons_zero, List.getElem?_cons_succ, Nat.reduceAdd, Nat.reduceMul, Nat.zero_add, Nat.add_zero, Nat.mul_one, Nat.zero_mul, List.drop, List.take, List.toList_toArray, Value.cells, Int.reduceToNat, Int.toNat_natCast, List.getD, Option.getD, Option.map, flat, flat1, scal, if_true, ↓reduceIte]))
      refine AL.nil ?_
      refine Then.n ?_
      refine AW.ret ?_
      refine Then.r ?_
      refine FinP.ret (.tmp (by conv => lhs; whnf) .nil) ?_ rfl
      (try simp only [pack, List.drop, List.take])
      all_goals (first | (subst hc1_; exact congrArg _ (gcd_abs a)) | exact congrArg _ (congrArg _ (gcd_step a b)))
    · have hc1_ := hc1; (try simp only [decide_eq_true_eq, decide_eq_false_iff_not, Bool.not_true, Bool.not_false, Bool.not_eq_true', Bool.not_eq_false', Int.not_lt, Int.not_le, Classical.not_not, ne_eq] at hc1_)
      refine AW.skip ?_
      refine Then.n ?_
      refine AW.seq ?_
      refine AW.region ?_
      refine AL.q rfl (OQ.move (by conv => lhs; whnf)) ?_
      refine AL.q rfl (OQ.move (by conv => lhs; whnf)) ?_
      refine AL.q rfl (OQ.move (by conv => lhs; whnf)) ?_
      refine AL.q rfl (OQ.rem rfl rfl (by omega)) ?_
      (conv => (arg 5; try simp only [T.put, T.ev, putAt, setsT, newBlks, fillL, List.map, List.set, List.append, List.cons_append, List.nil_append, List.length, List.getElem?_cons_zero, List.getElem?_cons_succ, Nat.reduceAdd, Nat.reduceMul, Nat.zero_add, Nat.add_zero, Nat.mul_one, Nat.zero_mul, List.drop, List.take, List.toList_toArray, Value.cells, Int.reduceToNat, Int.toNat_natCast, List.getD, Option.getD, Option.map, flat, flat1, scal, if_true, ↓reduceIte]))
      refine AL.pcall rfl (by kernel_rfl) rfl (ih _ _ (by have := natAbs_tmod_lt (a := a) (b := b) (by omega); omega) (by omega) (by omega) _) ?_
      (conv => (arg 5; try simp only [T.put, T.ev, putAt, setsT, newBlks, fillL, List.map, List.set, List.append, List.cons_append, List.nil_append, List.length, List.getElem?_cons_zero, List.getElem?_cons_succ, Nat.reduceAdd, Nat.reduceMul, Nat.zero_add, Nat.add_zero, Nat.mul_one, Nat.zero_mul, List.drop, List.take, List.toList_toArray, Value.cells, Int.reduceToNat, Int.toNat_natCast, List.getD, Option.getD, Option.map, flat, flat1, scal, if_true, ↓reduceIte]))
      refine AL.q rfl (OQ.assign (by conv => lhs; whnf)) ?_
      (conv => (arg 5; try simp only [T.put, T.ev, putAt, setsT, newBlks, fillL, List.map, List.set, List.append, List.cons_append, List.nil_append, List.length, List.getElem?_cons_zero, List.getElem?_cons_succ, Nat.reduceAdd, Nat.reduceMul, Nat.zero_add, Nat.add_zero, Nat.mul_one, Nat.zero_mul, List.drop, List.take, List.toList_toArray, Value.cells, Int.reduceToNat, Int.toNat_natCast, List.getD, Option.getD, Option.map, flat, flat1, scal, if_true, ↓reduceIte]))
      refine AL.nil ?_
      refine Then.n ?_
      refine AW.ret ?_
      refine FinP.ret (.tmp (by conv => lhs; whnf) .nil) ?_ rfl
      (try simp only [pack, List.drop, List.take])
      all_goals (first | (subst hc1_; exact congrArg _ (gcd_abs a)) | exact congrArg _ (congrArg _ (gcd_step a b)))

theorem Size_p (a : Int) (ha : -1000000000000000 ≤ a ∧ a ≤ 1000000000000000) (m : Mem) : PCalls Try.prog 112 [.int .i64 a] m (.int .i64 (a.natAbs : Int)) := by
  refine PCalls.any ?_ rfl rfl m
  refine PCalls.enter (t := [.int .i64 a, undef, undef, undef, undef, undef, undef]) Try.func112 rfl (ro_nil) rfl fun E => ?_
  refine AW.seq ?_
  refine AW.region ?_
  refine AL.q rfl (OQ.assign (by conv => lhs; whnf)) ?_
  (conv => (arg 5; try simp only [T.put, T.ev, putAt, setsT, newBlks, fillL, List.map, List.set, List.append, List.cons_append, List.nil_append, List.length, List.getElem?_cons_zero, List.getElem?_cons_succ, Nat.reduceAdd, Nat.reduceMul, Nat.zero_add, Nat.add_zero, Nat.mul_one, Nat.zero_mul, List.drop, List.take, List.toList_toArray, Value.cells, Int.reduceToNat, Int.toNat_natCast, List.getD, Option.getD, Option.map, flat, flat1, scal, if_true, ↓reduceIte]))
  refine AL.nil ?_
  refine Then.n ?_
  refine AW.seq ?_
  refine AW.region ?_
  refine AL.q rfl (OQ.move (by conv => lhs; whnf)) ?_
  refine AL.q rfl (OQ.move (by conv => lhs; whnf)) ?_
  first | refine AL.q rfl (OQ.negi rfl (by omega)) ?_ | refine AL.q rfl (OQ.neg rfl) ?_
  refine AL.q rfl (OQ.max2 rfl rfl) ?_
  refine AL.q rfl (OQ.assign (by conv => lhs; whnf)) ?_
  (conv => (arg 5; try simp only [T.put, T.ev, putAt, setsT, newBlks, fillL, List.map, List.set, List.append, List.cons_append, List.nil_append, List.length, List.getElem?_cons_zero, List.getElem?_cons_succ, Nat.reduceAdd, Nat.reduceMul, Nat.zero_add, Nat.add_zero, Nat.mul_one, Nat.zero_mul, List.drop, List.take, List.toList_toArray, Value.cells, Int.reduceToNat, Int.toNat_natCast, List.getD, Option.getD, Option.map, flat, flat1, scal, if_true, ↓reduceIte]))
  refine AL.nil ?_
  refine Then.n ?_
  refine AW.ret ?_
  refine FinP.ret (.tmp (by conv => lhs; whnf) .nil) ?_ rfl
  (try simp only [pack, List.drop, List.take])
  all_goals (refine congrArg _ ?_; split <;> omega)

theorem Gcd_p (a b : Int) (ha : -1000000000000000 ≤ a ∧ a ≤ 1000000000000000) (hb : -1000000000000000 ≤ b ∧ b ≤ 1000000000000000) (m : Mem) : PCalls Try.prog 122 [.int .i64 a, .int .i64 b] m (.int .i64 (Int.gcd a b)) := by
  refine PCalls.any ?_ rfl rfl m
  refine PCalls.enter (t := [.int .i64 a, .int .i64 b, undef, undef, undef, undef, undef, undef, undef, undef, undef, undef, undef]) Try.func122 rfl (ro_nil) rfl fun E => ?_
  refine AW.seq ?_
  refine AW.region ?_
  refine AL.q rfl (OQ.assign (by conv => lhs; whnf)) ?_
  (conv => (arg 5; try simp only [T.put, T.ev, putAt, setsT, newBlks, fillL, List.map, List.set, List.append, List.cons_append, List.nil_append, List.length, List.getElem?_cons_zero, List.getElem?_cons_succ, Nat.reduceAdd, Nat.reduceMul, Nat.zero_add, Nat.add_zero, Nat.mul_one, Nat.zero_mul, List.drop, List.take, List.toList_toArray, Value.cells, Int.reduceToNat, Int.toNat_natCast, List.getD, Option.getD, Option.map, flat, flat1, scal, if_true, ↓reduceIte]))
  refine AL.nil ?_
  refine Then.n ?_
  refine AW.seq ?_
  refine AW.block ?_
  refine AW.wk (Wk.forget [true, true, false, false, false, false, false, false, false, false, false, false, false] rfl) ?_
  conv => (arg 4; simp only [fgt, if_true, if_false, Bool.false_eq_true])
  refine AW.loop (fun n t m => ∃ x y : Int, n = y.natAbs ∧ (-1000000000000000 ≤ x ∧ x ≤ 1000000000000000) ∧ (-1000000000000000 ≤ y ∧ y ≤ 1000000000000000) ∧ Int.gcd x y = Int.gcd a b ∧ t = [.int .i64 x, .int .i64 y, junk, junk, junk, junk, junk, junk, junk, junk, junk, junk, junk] ∧ m = []) (b.natAbs) ?_ ?_
  · exact ⟨a, b, rfl, ha, hb, rfl, rfl, rfl⟩
  · rintro n t m ⟨x, y, rfl, hx, hy, hg, rfl, rfl⟩
    refine AW.seq ?_
    refine AW.seq ?_
    refine AW.region ?_
    refine AL.q rfl (OQ.move (by conv => lhs; whnf)) ?_
    refine AL.q rfl (OQ.neq rfl rfl) ?_
    (conv => (arg 5; try simp only [T.put, T.ev, putAt, setsT, newBlks, fillL, List.map, List.set, List.append, List.cons_append, List.nil_append, List.length, List.getElem?_cons_zero, List.getElem?_cons_succ, Nat.reduceAdd, Nat.reduceMul, Nat.zero_add, Nat.add_zero, Nat.mul_one, Nat.zero_mul, List.drop, List.take, List.toList_toArray, Value.cells, Int.reduceToNat, Int.toNat_natCast, List.getD, Option.getD, Option.map, flat, flat1, scal, if_true, ↓reduceIte]))
    refine AL.nil ?_
    refine Then.n ?_
    refine AW.cond rfl (fun hc1 => ?_) (fun hc1 => ?_)
    · have hc1_ := hc1; (try simp only [decide_eq_true_eq, decide_eq_false_iff_not, Bool.not_true, Bool.not_false, Bool.not_eq_true', Bool.not_eq_false', Int.not_lt, Int.not_le, Classical.not_not, ne_eq] at hc1_)
      refine AW.skip ?_
      refine Then.n ?_
      refine AW.block ?_
      refine AW.draw 6 #[0, 0, 0, 6, 3, 31] (by kernel_rfl) (by kernel_rfl) ?_
      refine AD.q rfl (OQ.move (by conv => lhs; whnf)) rfl rfl rfl ?_
      refine AD.q rfl (OQ.move (by conv => lhs; whnf)) rfl rfl rfl ?_
      refine AD.q rfl (OQ.move (by conv => lhs; whnf)) rfl rfl rfl ?_
      refine AD.q rfl (OQ.rem rfl rfl (by omega)) rfl rfl rfl ?_
      (conv => (arg 10; try simp only [T.put, T.ev, putAt, setsT, newBlks, fillL, List.map, List.set, List.append, List.cons_append, List.nil_append, List.length, List.getElem?_cons_zero, List.getElem?_cons_succ, Nat.reduceAdd, Nat.reduceMul, Nat.zero_add, Nat.add_zero, Nat.mul_one, Nat.zero_mul, List.drop, List.take, List.toList_toArray, Value.cells, Int.reduceToNat, Int.toNat_natCast, List.getD, Option.getD, Option.map, flat, flat1, scal, if_true, ↓reduceIte]))
      refine AD.q rfl (OQ.assign (by conv => lhs; whnf)) rfl rfl rfl ?_
      refine AD.q rfl (OQ.assign (by conv => lhs; whnf)) rfl rfl rfl ?_
      (conv => (arg 10; try simp only [T.put, T.ev, putAt, setsT, newBlks, fillL, List.map, List.set, List.append, List.cons_append, List.nil_append, List.length, List.getElem?_cons_zero, List.getElem?_cons_succ, Nat.reduceAdd, Nat.reduceMul, Nat.zero_add, Nat.add_zero, Nat.mul_one, Nat.zero_mul, List.drop, List.take, List.toList_toArray, Value.cells, Int.reduceToNat, Int.toNat_natCast, List.getD, Option.getD, Option.map, flat, flat1, scal, if_true, ↓reduceIte]))
      refine AD.nil ?_
      (conv => (arg 5; try simp only [T.put, T.ev, putAt, setsT, newBlks, fillL, List.map, List.set, List.append, List.cons_append, List.nil_append, List.length, List.getElem?_cons_zero, List.getElem?_cons_succ, Nat.reduceAdd, Nat.reduceMul, Nat.zero_add, Nat.add_zero, Nat.mul_one, Nat.zero_mul, List.drop, List.take, List.toList_toArray, Value.cells, Int.reduceToNat, Int.toNat_natCast, List.getD, Option.getD, Option.map, flat, flat1, scal, if_true, ↓reduceIte]))
      (conv => (arg 6; try simp only [T.put, T.ev, putAt, setsT, newBlks, fillL, List.map, List.set, List.append, List.cons_append, List.nil_append, List.length, List.getElem?_cons_zero, List.getElem?_cons_succ, Nat.reduceAdd, Nat.reduceMul, Nat.zero_add, Nat.add_zero, Nat.mul_one, Nat.zero_mul, List.drop, List.take, List.toList_toArray, Value.cells, Int.reduceToNat, Int.toNat_natCast, List.getD, Option.getD, Option.map, flat, flat1, scal, if_true, ↓reduceIte]))
      (conv => (arg 5; try simp only [T.put, T.ev, putAt, setsT, newBlks, fillL, List.map, List.set, List.append, List.cons_append, List.nil_append, List.length, List.getElem?_cons_zero, List.getElem?_cons_succ, Nat.reduceAdd, Nat.reduceMul, Nat.zero_add, Nat.add_zero, Nat.mul_one, Nat.zero_mul, List.drop, List.take, List.toList_toArray, Value.cells, Int.reduceToNat, Int.toNat_natCast, List.getD, Option.getD, Option.map, flat, flat1, scal, if_true, ↓reduceIte]))
      refine AL.nil ?_
      refine InB.n ?_
      refine Then.n ?_
      exact ⟨_, _, _, natAbs_tmod_lt hc1_, Wk.forget [true, true, false, false, false, false, false, false, false, false, false, false, false] rfl, y, x.tmod y, rfl, hy, gtmod_bd hx, (gcd_step x y).trans hg, rfl, rfl⟩
    · have hc1_ := hc1; (try simp only [decide_eq_true_eq, decide_eq_false_iff_not, Bool.not_true, Bool.not_false, Bool.not_eq_true', Bool.not_eq_false', Int.not_lt, Int.not_le, Classical.not_not, ne_eq] at hc1_)
      refine AW.exit ?_
      refine Then.x ?_
      refine Then.x ?_
      refine InB.hit ?_
      refine Then.n ?_
      refine AW.seq ?_
      refine AW.region ?_
      refine AL.q rfl (OQ.move (by conv => lhs; whnf)) ?_
      refine AL.pcall rfl (by kernel_rfl) rfl (Size_p _ (by omega) _) ?_
      (conv => (arg 5; try simp only [T.put, T.ev, putAt, setsT, newBlks, fillL, List.map, List.set, List.append, List.cons_append, List.nil_append, List.length, List.getElem?_cons_zero, List.getElem?_cons_succ, Nat.reduceAdd, Nat.reduceMul, Nat.zero_add, Nat.add_zero, Nat.mul_one, Nat.zero_mul, List.drop, List.take, List.toList_toArray, Value.cells, Int.reduceToNat, Int.toNat_natCast, List.getD, Option.getD, Option.map, flat, flat1, scal, if_true, ↓reduceIte]))
      refine AL.q rfl (OQ.assign (by conv => lhs; whnf)) ?_
      (conv => (arg 5; try simp only [T.put, T.ev, putAt, setsT, newBlks, fillL, List.map, List.set, List.append, List.cons_append, List.nil_append, List.length, List.getElem?_cons_zero, List.getElem?_cons_succ, Nat.reduceAdd, Nat.reduceMul, Nat.zero_add, Nat.add_zero, Nat.mul_one, Nat.zero_mul, List.drop, List.take, List.toList_toArray, Value.cells, Int.reduceToNat, Int.toNat_natCast, List.getD, Option.getD, Option.map, flat, flat1, scal, if_true, ↓reduceIte]))
      refine AL.nil ?_
      refine Then.n ?_
      refine AW.ret ?_
      refine FinP.ret (.tmp (by conv => lhs; whnf) .nil) ?_ rfl
      (try simp only [pack, List.drop, List.take])
      all_goals (subst hc1_; rw [← hg, Int.gcd_zero])
end Go.Proofs.Ythpjhpfebjjanaa
