/- Chapter 8: the reference: rows, normal equations, determinants, the fit. -/
import Derived.Test.Ytnocdnhhlppahaa08r
set_option linter.unusedSimpArgs false
set_option linter.unusedVariables false
namespace Go.Proofs.Ytnocdnhhlppahaa
open Go Go.RowKit Go.Ab Go.Sr
set_option maxRecDepth 100000
set_option maxHeartbeats 4000000
attribute [local irreducible] OQ OW AL AW AD AF SW

theorem _root_.Go.Sr.wid {a A B : Int} (h : -A ≤ a ∧ a ≤ A) (hB : A ≤ B) : -B ≤ a ∧ a ≤ B := by omega
abbrev vV (v : V3) : Value := .agg #[.int .i64 v.1, .int .i64 v.2.1, .int .i64 v.2.2]
theorem cross_q (a b c x y z : Int) (h1 : -3000000000000000000 ≤ b * z ∧ b * z ≤ 3000000000000000000) (h2 : -3000000000000000000 ≤ c * y ∧ c * y ≤ 3000000000000000000) (h3 : -3000000000000000000 ≤ c * x ∧ c * x ≤ 3000000000000000000) (h4 : -3000000000000000000 ≤ a * z ∧ a * z ≤ 3000000000000000000) (h5 : -3000000000000000000 ≤ a * y ∧ a * y ≤ 3000000000000000000) (h6 : -3000000000000000000 ≤ b * x ∧ b * x ≤ 3000000000000000000) (m : Mem) :
    PCalls Try.prog 114 [.agg #[.int .i64 a, .int .i64 b, .int .i64 c], .agg #[.int .i64 x, .int .i64 y, .int .i64 z]] m (.agg #[.int .i64 (b * z - c * y), .int .i64 (c * x - a * z), .int .i64 (a * y - b * x)]) := by
  refine PCalls.any ?_ rfl rfl m
  refine PCalls.enter (t := [.agg #[.int .i64 a, .int .i64 b, .int .i64 c], .agg #[.int .i64 x, .int .i64 y, .int .i64 z], undef, undef, undef, undef, undef, undef, undef, undef, undef, undef, undef, undef, undef, undef, undef, undef, undef, undef, undef, undef, undef, undef, undef, undef, undef, undef, undef, undef, undef, undef, undef, undef, undef, undef, undef, undef, undef]) Try.func114 rfl (ro_nil) rfl fun E => ?_
  repeat' (first
    | with_reducible refine Then.n ?_
    | with_reducible refine Then.r ?_
    | with_reducible refine Then.x ?_
    | with_reducible refine InB.n ?_
    | with_reducible refine InB.r ?_
    | with_reducible refine InB.hit ?_
    | with_reducible refine InB.miss (by decide) ?_
    | ((with_reducible refine AL.on ?_); first
      | ((first | ((with_reducible refine AL.k_indexAddr ?_); first | refine AL.q rfl (OQ.idxPtr (ty := 65) (n := 1) (l := 3) (g := false) rfl rfl (by kernel_rfl) (by omega) (by omega)) ?_) | ((with_reducible refine AL.k_load ?_); first | (refine AL.q rfl (OQ.load1 (ty := 3) rfl (by kernel_rfl) (by conv => lhs; whnf)) ?_)) | ((with_reducible refine AL.k_binOp ?_); first | refine AL.q rfl (OQ.muli rfl rfl (by omega)) ?_ | refine AL.q rfl (OQ.mul rfl rfl) ?_ | refine AL.q rfl (OQ.subi rfl rfl (by omega)) ?_ | refine AL.q rfl (OQ.sub rfl rfl) ?_)); (conv => (arg 5; try tactic => exact nrm)))
      | ((first | first | refine AL.q rfl (OQ.buildA (ty := 65) (zs := [.int .i64 0, .int .i64 0, .int .i64 0]) (n := 1) (k := 3) (g := false) (by kernel_rfl) rfl (by kernel_rfl) rfl rfl rfl) ?_); (conv => (arg 5; try tactic => exact nrm)))
      | ((first | ((with_reducible refine AL.k_box ?_); first | (refine AL.w rfl (OW.box (by conv => lhs; whnf) (by intro r h; cases h)) ?_)) | ((with_reducible refine AL.k_alloc ?_); first | refine AL.w rfl (OW.alloc (ty := 65) (z := [.int .i64 0, .int .i64 0, .int .i64 0]) (by kernel_rfl) rfl) ?_) | ((with_reducible refine AL.k_store ?_); first | (refine AL.w rfl (OW.store (ty := 65) (n := 3) rfl (by conv => lhs; whnf) rfl rfl (by kernel_rfl) rfl rfl (by decide) rfl (Nat.le_of_ble_eq_true rfl) (by intro r h; cases h)) ?_))); (conv => (arg 5; try tactic => exact nrm)); (conv => (arg 6; try tactic => exact nrm)))
      | refine AL.nil ?_)
    | ((with_reducible refine AW.on ?_); first
      | refine AW.seq ?_
      | refine AW.skip ?_
      | refine AW.exit ?_
      | refine AW.ret ?_
      | refine AW.block ?_
      | refine AW.region ?_
      | (refine AW.conds rfl (fun hc => ?_) (fun hc => ?_) <;> (try simp only [decide_eq_true_eq, decide_eq_false_iff_not, Bool.not_true, Bool.not_false, Bool.not_eq_true', Bool.not_eq_false', Int.not_lt, Int.not_le, Classical.not_not, ne_eq] at hc) <;> first | (exfalso; first | contradiction | (omega); done) | skip))
    | ((with_reducible refine FinP.on ?_); (first | refine FinP.ret (.cellN (n := 3) (by conv => lhs; whnf) (by kernel_rfl) (by kernel_rfl) rfl .nil) ?_ rfl | refine FinP.end (.cellN (n := 3) (by conv => lhs; whnf) (by kernel_rfl) (by kernel_rfl) rfl .nil) ?_ rfl); (try simp only [pack, List.drop, List.take]); all_goals (rfl)))
theorem dot_q (a b c x y z : Int) (h1 : -3000000000000000000 ≤ a * x ∧ a * x ≤ 3000000000000000000) (h2 : -3000000000000000000 ≤ b * y ∧ b * y ≤ 3000000000000000000) (h3 : -3000000000000000000 ≤ c * z ∧ c * z ≤ 3000000000000000000) (m : Mem) :
    PCalls Try.prog 92 [.agg #[.int .i64 a, .int .i64 b, .int .i64 c], .agg #[.int .i64 x, .int .i64 y, .int .i64 z]] m (.int .i64 (a * x + b * y + c * z)) := by
  refine PCalls.any ?_ rfl rfl m
  refine PCalls.enter (t := [.agg #[.int .i64 a, .int .i64 b, .int .i64 c], .agg #[.int .i64 x, .int .i64 y, .int .i64 z], undef, undef, undef, undef, undef, undef, undef, undef, undef, undef, undef, undef, undef, undef, undef, undef, undef, undef, undef, undef]) Try.func92 rfl (ro_nil) rfl fun E => ?_
  repeat' (first
    | with_reducible refine Then.n ?_
    | with_reducible refine Then.r ?_
    | with_reducible refine Then.x ?_
    | with_reducible refine InB.n ?_
    | with_reducible refine InB.r ?_
    | with_reducible refine InB.hit ?_
    | with_reducible refine InB.miss (by decide) ?_
    | ((with_reducible refine AL.on ?_); first
      | ((first | ((with_reducible refine AL.k_indexAddr ?_); first | refine AL.q rfl (OQ.idxPtr (ty := 65) (n := 1) (l := 3) (g := false) rfl rfl (by kernel_rfl) (by omega) (by omega)) ?_) | ((with_reducible refine AL.k_load ?_); first | (refine AL.q rfl (OQ.load1 (ty := 3) rfl (by kernel_rfl) (by conv => lhs; whnf)) ?_)) | ((with_reducible refine AL.k_binOp ?_); first | refine AL.q rfl (OQ.muli rfl rfl (by omega)) ?_ | refine AL.q rfl (OQ.mul rfl rfl) ?_ | refine AL.q rfl (OQ.addi rfl rfl (by omega)) ?_ | refine AL.q rfl (OQ.add rfl rfl) ?_) | ((with_reducible refine AL.k_assign ?_); first | (refine AL.q rfl (OQ.assign (by conv => lhs; whnf)) ?_))); (conv => (arg 5; try tactic => exact nrm)))
      | ((first | first | (refine AL.w rfl (OW.box (by conv => lhs; whnf) (by intro r h; cases h)) ?_)); (conv => (arg 5; try tactic => exact nrm)); (conv => (arg 6; try tactic => exact nrm)))
      | refine AL.nil ?_)
    | ((with_reducible refine AW.on ?_); first
      | refine AW.seq ?_
      | refine AW.skip ?_
      | refine AW.exit ?_
      | refine AW.ret ?_
      | refine AW.block ?_
      | refine AW.region ?_
      | (refine AW.conds rfl (fun hc => ?_) (fun hc => ?_) <;> (try simp only [decide_eq_true_eq, decide_eq_false_iff_not, Bool.not_true, Bool.not_false, Bool.not_eq_true', Bool.not_eq_false', Int.not_lt, Int.not_le, Classical.not_not, ne_eq] at hc) <;> first | (exfalso; first | contradiction | (omega); done) | skip))
    | ((with_reducible refine FinP.on ?_); (first | refine FinP.ret (.tmp (by conv => lhs; whnf) .nil) ?_ rfl | refine FinP.end (.tmp (by conv => lhs; whnf) .nil) ?_ rfl); (try simp only [pack, List.drop, List.take]); all_goals (rfl)))
theorem rdet_q (a0 a1 a2 a3 a4 a5 a6 a7 a8 : Int) (h1 : -3000000000000000000 ≤ a1 * a5 ∧ a1 * a5 ≤ 3000000000000000000) (h2 : -3000000000000000000 ≤ a2 * a4 ∧ a2 * a4 ≤ 3000000000000000000) (h3 : -3000000000000000000 ≤ a2 * a3 ∧ a2 * a3 ≤ 3000000000000000000) (h4 : -3000000000000000000 ≤ a0 * a5 ∧ a0 * a5 ≤ 3000000000000000000) (h5 : -3000000000000000000 ≤ a0 * a4 ∧ a0 * a4 ≤ 3000000000000000000) (h6 : -3000000000000000000 ≤ a1 * a3 ∧ a1 * a3 ≤ 3000000000000000000)
    (k1 : -3000000000000000000 ≤ (a1 * a5 - a2 * a4) * a6 ∧ (a1 * a5 - a2 * a4) * a6 ≤ 3000000000000000000) (k2 : -3000000000000000000 ≤ (a2 * a3 - a0 * a5) * a7 ∧ (a2 * a3 - a0 * a5) * a7 ≤ 3000000000000000000) (k3 : -3000000000000000000 ≤ (a0 * a4 - a1 * a3) * a8 ∧ (a0 * a4 - a1 * a3) * a8 ≤ 3000000000000000000) (m : Mem) :
    PCalls Try.prog 97 [.agg #[.int .i64 a0, .int .i64 a1, .int .i64 a2, .int .i64 a3, .int .i64 a4, .int .i64 a5, .int .i64 a6, .int .i64 a7, .int .i64 a8]] m (.int .i64 ((a1 * a5 - a2 * a4) * a6 + (a2 * a3 - a0 * a5) * a7 + (a0 * a4 - a1 * a3) * a8)) := by
  have H1 := cross_q a0 a1 a2 a3 a4 a5 h1 h2 h3 h4 h5 h6
  have H2 := dot_q (a1 * a5 - a2 * a4) (a2 * a3 - a0 * a5) (a0 * a4 - a1 * a3) a6 a7 a8 k1 k2 k3
  refine PCalls.any ?_ rfl rfl m
  refine PCalls.enter (t := [.agg #[.int .i64 a0, .int .i64 a1, .int .i64 a2, .int .i64 a3, .int .i64 a4, .int .i64 a5, .int .i64 a6, .int .i64 a7, .int .i64 a8], undef, undef, undef, undef, undef, undef, undef, undef, undef, undef, undef, undef, undef, undef, undef, undef, undef, undef, undef, undef, undef, undef, undef, undef, undef]) Try.func97 rfl (ro_nil) rfl fun E => ?_
  repeat' (first
    | with_reducible refine Then.n ?_
    | with_reducible refine Then.r ?_
    | with_reducible refine Then.x ?_
    | with_reducible refine InB.n ?_
    | with_reducible refine InB.r ?_
    | with_reducible refine InB.hit ?_
    | with_reducible refine InB.miss (by decide) ?_
    | ((with_reducible refine AL.on ?_); first
      | ((first | first | (refine AL.q rfl (OQ.assign (by conv => lhs; whnf)) ?_)); (conv => (arg 5; try tactic => exact nrm)))
      | ((first | first | (refine AL.w rfl (OW.box (by conv => lhs; whnf) (by intro r h; cases h)) ?_)); (conv => (arg 5; try tactic => exact nrm)); (conv => (arg 6; try tactic => exact nrm)))
      | refine AL.nil ?_)
    | ((with_reducible refine AW.on ?_); first
      | refine AW.seq ?_
      | refine AW.skip ?_
      | refine AW.exit ?_
      | refine AW.ret ?_
      | refine AW.block ?_
      | (refine AW.draw (id := 1) 24 #[0, 1, 0, 4, 0, 16, 63, 0, 128, 0, 512, 0, 2048, 8064, 16383, 0, 32768, 0, 131072, 0, 524288, 2064384, 4194303, 8388607] (by kernel_rfl) (by kernel_rfl) ?_; (conv => (arg 8; simp only [List.take_succ_cons, List.take_zero])))
      | refine AW.region ?_
      | (refine AW.conds rfl (fun hc => ?_) (fun hc => ?_) <;> (try simp only [decide_eq_true_eq, decide_eq_false_iff_not, Bool.not_true, Bool.not_false, Bool.not_eq_true', Bool.not_eq_false', Int.not_lt, Int.not_le, Classical.not_not, ne_eq] at hc) <;> first | (exfalso; first | contradiction | (omega); done) | skip))
    | ((with_reducible refine AD.on ?_); first
      | ((first | ((with_reducible refine AD.k_indexAddr ?_); first | refine AD.q rfl (OQ.idxPtr (ty := 97) (n := 1) (l := 9) (g := false) rfl rfl (by kernel_rfl) (by omega) (by omega)) rfl rfl rfl ?_) | ((with_reducible refine AD.k_load ?_); first | (refine AD.q rfl (OQ.load1 (ty := 3) rfl (by kernel_rfl) (by conv => lhs; whnf)) rfl rfl rfl ?_)) | ((with_reducible refine AD.k_assign ?_); first | (refine AD.q rfl (OQ.assign (by conv => lhs; whnf)) rfl rfl rfl ?_))); (conv => (arg 10; try tactic => exact nrm)))
      | ((first | ((with_reducible refine AD.k_build ?_); first | refine AD.q rfl (OQ.buildA (ty := 65) (zs := [.int .i64 0, .int .i64 0, .int .i64 0]) (n := 1) (k := 3) (g := false) (by kernel_rfl) rfl (by kernel_rfl) rfl rfl rfl) rfl rfl rfl ?_) | ((with_reducible refine AD.k_call ?_); first | refine AD.pcall (g := 114) rfl (by kernel_rfl) rfl (H1 _) rfl rfl ?_ | refine AD.pcall (g := 92) rfl (by kernel_rfl) rfl (H2 _) rfl rfl ?_)); (conv => (arg 10; try tactic => exact nrm)))
      | (refine AD.nil ?_; (conv => (arg 4; simp only [List.drop_succ_cons, List.drop_zero, List.drop_nil])); (conv => (arg 5; try tactic => exact nrm)); (conv => (arg 6; try tactic => exact nrm))))
    | ((with_reducible refine FinP.on ?_); (first | refine FinP.ret (.tmp (by conv => lhs; whnf) .nil) ?_ rfl | refine FinP.end (.tmp (by conv => lhs; whnf) .nil) ?_ rfl); (try simp only [pack, List.drop, List.take]); all_goals (rfl)))
theorem put0_q (a0 a1 a2 a3 a4 a5 a6 a7 a8 x y z : Int) (m : Mem) : PCalls Try.prog 98 [.agg #[.int .i64 a0, .int .i64 a1, .int .i64 a2, .int .i64 a3, .int .i64 a4, .int .i64 a5, .int .i64 a6, .int .i64 a7, .int .i64 a8], .int .i64 0, .agg #[.int .i64 x, .int .i64 y, .int .i64 z]] m
    (.agg #[.int .i64 x, .int .i64 a1, .int .i64 a2, .int .i64 y, .int .i64 a4, .int .i64 a5, .int .i64 z, .int .i64 a7, .int .i64 a8]) := by
  refine PCalls.any ?_ rfl rfl m
  refine PCalls.enter (t := [.agg #[.int .i64 a0, .int .i64 a1, .int .i64 a2, .int .i64 a3, .int .i64 a4, .int .i64 a5, .int .i64 a6, .int .i64 a7, .int .i64 a8], .int .i64 0, .agg #[.int .i64 x, .int .i64 y, .int .i64 z], undef, undef, undef, undef, undef, undef, undef, undef, undef, undef, undef, undef, undef, undef, undef, undef, undef, undef]) Try.func98 rfl (ro_nil) rfl fun E => ?_
  repeat' (first
    | with_reducible refine Then.n ?_
    | with_reducible refine Then.r ?_
    | with_reducible refine Then.x ?_
    | with_reducible refine InB.n ?_
    | with_reducible refine InB.r ?_
    | with_reducible refine InB.hit ?_
    | with_reducible refine InB.miss (by decide) ?_
    | ((with_reducible refine AL.on ?_); first
      | ((first | ((with_reducible refine AL.k_move ?_); first | (refine AL.q rfl (OQ.move (by conv => lhs; whnf)) ?_)) | ((with_reducible refine AL.k_binOp ?_); first | refine AL.q rfl (OQ.lss rfl rfl) ?_ | refine AL.q rfl (OQ.muli rfl rfl (by omega)) ?_ | refine AL.q rfl (OQ.mul rfl rfl) ?_ | refine AL.q rfl (OQ.addi rfl rfl (by omega)) ?_ | refine AL.q rfl (OQ.add rfl rfl) ?_) | ((with_reducible refine AL.k_assign ?_); first | (refine AL.q rfl (OQ.assign (by conv => lhs; whnf)) ?_)) | ((with_reducible refine AL.k_indexAddr ?_); first | refine AL.q rfl (OQ.idxPtr (ty := 65) (n := 1) (l := 3) (g := false) rfl rfl (by kernel_rfl) (by omega) (by omega)) ?_ | refine AL.q rfl (OQ.idxPtr (ty := 97) (n := 1) (l := 9) (g := false) rfl rfl (by kernel_rfl) (by omega) (by omega)) ?_) | ((with_reducible refine AL.k_load ?_); first | (refine AL.q rfl (OQ.load1 (ty := 3) rfl (by kernel_rfl) (by conv => lhs; whnf)) ?_) | refine AL.q rfl (OQ.loadN (ty := 97) (n := 9) rfl (by kernel_rfl) (by kernel_rfl) rfl) ?_)); (conv => (arg 5; try tactic => exact nrm)))
      | ((first | ((with_reducible refine AL.k_box ?_); first | (refine AL.w rfl (OW.box (by conv => lhs; whnf) (by intro r h; cases h)) ?_)) | ((with_reducible refine AL.k_store ?_); first | (refine AL.w rfl (OW.store (ty := 3) (n := 1) rfl (by conv => lhs; whnf) rfl rfl (by kernel_rfl) rfl rfl (by decide) rfl (Nat.le_of_ble_eq_true rfl) (by intro r h; cases h)) ?_) | (refine AL.w rfl (OW.store (ty := 97) (n := 9) rfl (by conv => lhs; whnf) rfl rfl (by kernel_rfl) rfl rfl (by decide) rfl (Nat.le_of_ble_eq_true rfl) (by intro r h; cases h)) ?_)) | ((with_reducible refine AL.k_alloc ?_); first | refine AL.w rfl (OW.alloc (ty := 97) (z := [.int .i64 0, .int .i64 0, .int .i64 0, .int .i64 0, .int .i64 0, .int .i64 0, .int .i64 0, .int .i64 0, .int .i64 0]) (by kernel_rfl) rfl) ?_)); (conv => (arg 5; try tactic => exact nrm)); (conv => (arg 6; try tactic => exact nrm)))
      | refine AL.nil ?_)
    | ((with_reducible refine AW.on ?_); first
      | refine AW.seq ?_
      | refine AW.skip ?_
      | refine AW.exit ?_
      | refine AW.ret ?_
      | (refine AW.block (id := 0) ?_; refine AW.unroll 4 ?_)
      | refine AW.block ?_
      | refine AW.region ?_
      | (refine AW.conds rfl (fun hc => ?_) (fun hc => ?_) <;> (try simp only [decide_eq_true_eq, decide_eq_false_iff_not, Bool.not_true, Bool.not_false, Bool.not_eq_true', Bool.not_eq_false', Int.not_lt, Int.not_le, Classical.not_not, ne_eq] at hc) <;> first | (exfalso; first | contradiction | (omega); done) | skip))
    | with_reducible refine AR.s ?_
    | ((with_reducible refine AR.out ?_); omega; done)
    | ((with_reducible refine FinP.on ?_); (first | refine FinP.ret (.cellN (n := 9) (by conv => lhs; whnf) (by kernel_rfl) (by kernel_rfl) rfl .nil) ?_ rfl | refine FinP.end (.cellN (n := 9) (by conv => lhs; whnf) (by kernel_rfl) (by kernel_rfl) rfl .nil) ?_ rfl); (try simp only [pack, List.drop, List.take]); all_goals (rfl)))
theorem put1_q (a0 a1 a2 a3 a4 a5 a6 a7 a8 x y z : Int) (m : Mem) : PCalls Try.prog 98 [.agg #[.int .i64 a0, .int .i64 a1, .int .i64 a2, .int .i64 a3, .int .i64 a4, .int .i64 a5, .int .i64 a6, .int .i64 a7, .int .i64 a8], .int .i64 1, .agg #[.int .i64 x, .int .i64 y, .int .i64 z]] m
    (.agg #[.int .i64 a0, .int .i64 x, .int .i64 a2, .int .i64 a3, .int .i64 y, .int .i64 a5, .int .i64 a6, .int .i64 z, .int .i64 a8]) := by
  refine PCalls.any ?_ rfl rfl m
  refine PCalls.enter (t := [.agg #[.int .i64 a0, .int .i64 a1, .int .i64 a2, .int .i64 a3, .int .i64 a4, .int .i64 a5, .int .i64 a6, .int .i64 a7, .int .i64 a8], .int .i64 1, .agg #[.int .i64 x, .int .i64 y, .int .i64 z], undef, undef, undef, undef, undef, undef, undef, undef, undef, undef, undef, undef, undef, undef, undef, undef, undef, undef]) Try.func98 rfl (ro_nil) rfl fun E => ?_
  repeat' (first
    | with_reducible refine Then.n ?_
    | with_reducible refine Then.r ?_
    | with_reducible refine Then.x ?_
    | with_reducible refine InB.n ?_
    | with_reducible refine InB.r ?_
    | with_reducible refine InB.hit ?_
    | with_reducible refine InB.miss (by decide) ?_
    | ((with_reducible refine AL.on ?_); first
      | ((first | ((with_reducible refine AL.k_move ?_); first | (refine AL.q rfl (OQ.move (by conv => lhs; whnf)) ?_)) | ((with_reducible refine AL.k_binOp ?_); first | refine AL.q rfl (OQ.lss rfl rfl) ?_ | refine AL.q rfl (OQ.muli rfl rfl (by omega)) ?_ | refine AL.q rfl (OQ.mul rfl rfl) ?_ | refine AL.q rfl (OQ.addi rfl rfl (by omega)) ?_ | refine AL.q rfl (OQ.add rfl rfl) ?_) | ((with_reducible refine AL.k_assign ?_); first | (refine AL.q rfl (OQ.assign (by conv => lhs; whnf)) ?_)) | ((with_reducible refine AL.k_indexAddr ?_); first | refine AL.q rfl (OQ.idxPtr (ty := 65) (n := 1) (l := 3) (g := false) rfl rfl (by kernel_rfl) (by omega) (by omega)) ?_ | refine AL.q rfl (OQ.idxPtr (ty := 97) (n := 1) (l := 9) (g := false) rfl rfl (by kernel_rfl) (by omega) (by omega)) ?_) | ((with_reducible refine AL.k_load ?_); first | (refine AL.q rfl (OQ.load1 (ty := 3) rfl (by kernel_rfl) (by conv => lhs; whnf)) ?_) | refine AL.q rfl (OQ.loadN (ty := 97) (n := 9) rfl (by kernel_rfl) (by kernel_rfl) rfl) ?_)); (conv => (arg 5; try tactic => exact nrm)))
      | ((first | ((with_reducible refine AL.k_box ?_); first | (refine AL.w rfl (OW.box (by conv => lhs; whnf) (by intro r h; cases h)) ?_)) | ((with_reducible refine AL.k_store ?_); first | (refine AL.w rfl (OW.store (ty := 3) (n := 1) rfl (by conv => lhs; whnf) rfl rfl (by kernel_rfl) rfl rfl (by decide) rfl (Nat.le_of_ble_eq_true rfl) (by intro r h; cases h)) ?_) | (refine AL.w rfl (OW.store (ty := 97) (n := 9) rfl (by conv => lhs; whnf) rfl rfl (by kernel_rfl) rfl rfl (by decide) rfl (Nat.le_of_ble_eq_true rfl) (by intro r h; cases h)) ?_)) | ((with_reducible refine AL.k_alloc ?_); first | refine AL.w rfl (OW.alloc (ty := 97) (z := [.int .i64 0, .int .i64 0, .int .i64 0, .int .i64 0, .int .i64 0, .int .i64 0, .int .i64 0, .int .i64 0, .int .i64 0]) (by kernel_rfl) rfl) ?_)); (conv => (arg 5; try tactic => exact nrm)); (conv => (arg 6; try tactic => exact nrm)))
      | refine AL.nil ?_)
    | ((with_reducible refine AW.on ?_); first
      | refine AW.seq ?_
      | refine AW.skip ?_
      | refine AW.exit ?_
      | refine AW.ret ?_
      | (refine AW.block (id := 0) ?_; refine AW.unroll 4 ?_)
      | refine AW.block ?_
      | refine AW.region ?_
      | (refine AW.conds rfl (fun hc => ?_) (fun hc => ?_) <;> (try simp only [decide_eq_true_eq, decide_eq_false_iff_not, Bool.not_true, Bool.not_false, Bool.not_eq_true', Bool.not_eq_false', Int.not_lt, Int.not_le, Classical.not_not, ne_eq] at hc) <;> first | (exfalso; first | contradiction | (omega); done) | skip))
    | with_reducible refine AR.s ?_
    | ((with_reducible refine AR.out ?_); omega; done)
    | ((with_reducible refine FinP.on ?_); (first | refine FinP.ret (.cellN (n := 9) (by conv => lhs; whnf) (by kernel_rfl) (by kernel_rfl) rfl .nil) ?_ rfl | refine FinP.end (.cellN (n := 9) (by conv => lhs; whnf) (by kernel_rfl) (by kernel_rfl) rfl .nil) ?_ rfl); (try simp only [pack, List.drop, List.take]); all_goals (rfl)))
theorem put2_q (a0 a1 a2 a3 a4 a5 a6 a7 a8 x y z : Int) (m : Mem) : PCalls Try.prog 98 [.agg #[.int .i64 a0, .int .i64 a1, .int .i64 a2, .int .i64 a3, .int .i64 a4, .int .i64 a5, .int .i64 a6, .int .i64 a7, .int .i64 a8], .int .i64 2, .agg #[.int .i64 x, .int .i64 y, .int .i64 z]] m
    (.agg #[.int .i64 a0, .int .i64 a1, .int .i64 x, .int .i64 a3, .int .i64 a4, .int .i64 y, .int .i64 a6, .int .i64 a7, .int .i64 z]) := by
  refine PCalls.any ?_ rfl rfl m
  refine PCalls.enter (t := [.agg #[.int .i64 a0, .int .i64 a1, .int .i64 a2, .int .i64 a3, .int .i64 a4, .int .i64 a5, .int .i64 a6, .int .i64 a7, .int .i64 a8], .int .i64 2, .agg #[.int .i64 x, .int .i64 y, .int .i64 z], undef, undef, undef, undef, undef, undef, undef, undef, undef, undef, undef, undef, undef, undef, undef, undef, undef, undef]) Try.func98 rfl (ro_nil) rfl fun E => ?_
  repeat' (first
    | with_reducible refine Then.n ?_
    | with_reducible refine Then.r ?_
    | with_reducible refine Then.x ?_
    | with_reducible refine InB.n ?_
    | with_reducible refine InB.r ?_
    | with_reducible refine InB.hit ?_
    | with_reducible refine InB.miss (by decide) ?_
    | ((with_reducible refine AL.on ?_); first
      | ((first | ((with_reducible refine AL.k_move ?_); first | (refine AL.q rfl (OQ.move (by conv => lhs; whnf)) ?_)) | ((with_reducible refine AL.k_binOp ?_); first | refine AL.q rfl (OQ.lss rfl rfl) ?_ | refine AL.q rfl (OQ.muli rfl rfl (by omega)) ?_ | refine AL.q rfl (OQ.mul rfl rfl) ?_ | refine AL.q rfl (OQ.addi rfl rfl (by omega)) ?_ | refine AL.q rfl (OQ.add rfl rfl) ?_) | ((with_reducible refine AL.k_assign ?_); first | (refine AL.q rfl (OQ.assign (by conv => lhs; whnf)) ?_)) | ((with_reducible refine AL.k_indexAddr ?_); first | refine AL.q rfl (OQ.idxPtr (ty := 65) (n := 1) (l := 3) (g := false) rfl rfl (by kernel_rfl) (by omega) (by omega)) ?_ | refine AL.q rfl (OQ.idxPtr (ty := 97) (n := 1) (l := 9) (g := false) rfl rfl (by kernel_rfl) (by omega) (by omega)) ?_) | ((with_reducible refine AL.k_load ?_); first | (refine AL.q rfl (OQ.load1 (ty := 3) rfl (by kernel_rfl) (by conv => lhs; whnf)) ?_) | refine AL.q rfl (OQ.loadN (ty := 97) (n := 9) rfl (by kernel_rfl) (by kernel_rfl) rfl) ?_)); (conv => (arg 5; try tactic => exact nrm)))
      | ((first | ((with_reducible refine AL.k_box ?_); first | (refine AL.w rfl (OW.box (by conv => lhs; whnf) (by intro r h; cases h)) ?_)) | ((with_reducible refine AL.k_store ?_); first | (refine AL.w rfl (OW.store (ty := 3) (n := 1) rfl (by conv => lhs; whnf) rfl rfl (by kernel_rfl) rfl rfl (by decide) rfl (Nat.le_of_ble_eq_true rfl) (by intro r h; cases h)) ?_) | (refine AL.w rfl (OW.store (ty := 97) (n := 9) rfl (by conv => lhs; whnf) rfl rfl (by kernel_rfl) rfl rfl (by decide) rfl (Nat.le_of_ble_eq_true rfl) (by intro r h; cases h)) ?_)) | ((with_reducible refine AL.k_alloc ?_); first | refine AL.w rfl (OW.alloc (ty := 97) (z := [.int .i64 0, .int .i64 0, .int .i64 0, .int .i64 0, .int .i64 0, .int .i64 0, .int .i64 0, .int .i64 0, .int .i64 0]) (by kernel_rfl) rfl) ?_)); (conv => (arg 5; try tactic => exact nrm)); (conv => (arg 6; try tactic => exact nrm)))
      | refine AL.nil ?_)
    | ((with_reducible refine AW.on ?_); first
      | refine AW.seq ?_
      | refine AW.skip ?_
      | refine AW.exit ?_
      | refine AW.ret ?_
      | (refine AW.block (id := 0) ?_; refine AW.unroll 4 ?_)
      | refine AW.block ?_
      | refine AW.region ?_
      | (refine AW.conds rfl (fun hc => ?_) (fun hc => ?_) <;> (try simp only [decide_eq_true_eq, decide_eq_false_iff_not, Bool.not_true, Bool.not_false, Bool.not_eq_true', Bool.not_eq_false', Int.not_lt, Int.not_le, Classical.not_not, ne_eq] at hc) <;> first | (exfalso; first | contradiction | (omega); done) | skip))
    | with_reducible refine AR.s ?_
    | ((with_reducible refine AR.out ?_); omega; done)
    | ((with_reducible refine FinP.on ?_); (first | refine FinP.ret (.cellN (n := 9) (by conv => lhs; whnf) (by kernel_rfl) (by kernel_rfl) rfl .nil) ?_ rfl | refine FinP.end (.cellN (n := 9) (by conv => lhs; whnf) (by kernel_rfl) (by kernel_rfl) rfl .nil) ?_ rfl); (try simp only [pack, List.drop, List.take]); all_goals (rfl)))
abbrev nmA (n : Nm) : Value := .agg #[.int .i64 n.xx, .int .i64 n.xy, .int .i64 n.xz, .int .i64 n.xy, .int .i64 n.yy, .int .i64 n.yz, .int .i64 n.xz, .int .i64 n.yz, .int .i64 n.zz]
abbrev nmF (n : Nm) : Value := .agg #[.int .i64 n.p, .int .i64 n.q, .int .i64 n.r]
abbrev fitV (n : Nm) : Value := .agg #[.int .i64 (fitF n 0), .int .i64 (fitF n 1), .int .i64 (fitF n 2), .int .i64 n.det]
theorem fit_id0 (n : Nm) : (n.xy * n.yz - n.xz * n.yy) * n.r + (n.xz * n.q - n.p * n.yz) * n.yz + (n.p * n.yy - n.xy * n.q) * n.zz = fitF n 0 := by
  show _ = (n.yy * n.zz - n.yz * n.yz) * n.p + (n.yz * n.xz - n.zz * n.xy) * n.q + (n.xy * n.yz - n.xz * n.yy) * n.r
  grind
theorem fit_id1 (n : Nm) : (n.p * n.yz - n.xz * n.q) * n.xz + (n.xz * n.xy - n.xx * n.yz) * n.r + (n.xx * n.q - n.p * n.xy) * n.zz = fitF n 1 := by
  show _ = (n.yz * n.xz - n.xy * n.zz) * n.p + (n.zz * n.xx - n.xz * n.xz) * n.q + (n.xz * n.xy - n.xx * n.yz) * n.r
  grind
theorem fit_id2 (n : Nm) : (n.xy * n.q - n.p * n.yy) * n.xz + (n.p * n.xy - n.xx * n.q) * n.yz + (n.xx * n.yy - n.xy * n.xy) * n.r = fitF n 2 := by
  show _ = (n.xy * n.yz - n.yy * n.xz) * n.p + (n.xz * n.xy - n.yz * n.xx) * n.q + (n.xx * n.yy - n.xy * n.xy) * n.r
  grind
theorem fit_id3 (n : Nm) : (n.xy * n.yz - n.xz * n.yy) * n.xz + (n.xz * n.xy - n.xx * n.yz) * n.yz + (n.xx * n.yy - n.xy * n.xy) * n.zz = n.det := by
  unfold Nm.det
  grind
theorem solved_m (n : Nm) (hN : NB n) (m : Mem) : PCalls Try.prog 102 [nmA n, nmF n] m (fitV n) := by
  have P0 := put0_q n.xx n.xy n.xz n.xy n.yy n.yz n.xz n.yz n.zz n.p n.q n.r
  have P1 := put1_q n.xx n.xy n.xz n.xy n.yy n.yz n.xz n.yz n.zz n.p n.q n.r
  have P2 := put2_q n.xx n.xy n.xz n.xy n.yy n.yz n.xz n.yz n.zz n.p n.q n.r
  have D0 := rdet_q n.p n.xy n.xz n.q n.yy n.yz n.r n.yz n.zz (Go.Sr.wid (mulc 9216000000 hN.xy hN.yz (by decide)) (by decide)) (Go.Sr.wid (mulc 9216000000 hN.xz hN.yy (by decide)) (by decide)) (Go.Sr.wid (mulc 737280000000 hN.xz hN.q (by decide)) (by decide)) (Go.Sr.wid (mulc 737280000000 hN.p hN.yz (by decide)) (by decide)) (Go.Sr.wid (mulc 147456000000000 hN.p hN.yy (by decide)) (by decide)) (Go.Sr.wid (mulc 147456000000000 hN.xy hN.q (by decide)) (by decide)) (Go.Sr.wid (mulc 7077888000000000 (by have h1 := mulc 9216000000 hN.xy hN.yz (by decide); have h2 := mulc 9216000000 hN.xz hN.yy (by decide); omega : -18432000000 ≤ n.xy * n.yz - n.xz * n.yy ∧ n.xy * n.yz - n.xz * n.yy ≤ 18432000000) hN.r (by decide)) (by decide)) (Go.Sr.wid (mulc 7077888000000000 (by have h1 := mulc 737280000000 hN.xz hN.q (by decide); have h2 := mulc 737280000000 hN.p hN.yz (by decide); omega : -1474560000000 ≤ n.xz * n.q - n.p * n.yz ∧ n.xz * n.q - n.p * n.yz ≤ 1474560000000) hN.yz (by decide)) (by decide)) (Go.Sr.wid (mulc 7077888000000000 (by have h1 := mulc 147456000000000 hN.p hN.yy (by decide); have h2 := mulc 147456000000000 hN.xy hN.q (by decide); omega : -294912000000000 ≤ n.p * n.yy - n.xy * n.q ∧ n.p * n.yy - n.xy * n.q ≤ 294912000000000) hN.zz (by decide)) (by decide))
  have D1 := rdet_q n.xx n.p n.xz n.xy n.q n.yz n.xz n.r n.zz (Go.Sr.wid (mulc 737280000000 hN.p hN.yz (by decide)) (by decide)) (Go.Sr.wid (mulc 737280000000 hN.xz hN.q (by decide)) (by decide)) (Go.Sr.wid (mulc 18432000000 hN.xz hN.xy (by decide)) (by decide)) (Go.Sr.wid (mulc 18432000000 hN.xx hN.yz (by decide)) (by decide)) (Go.Sr.wid (mulc 294912000000000 hN.xx hN.q (by decide)) (by decide)) (Go.Sr.wid (mulc 294912000000000 hN.p hN.xy (by decide)) (by decide)) (Go.Sr.wid (mulc 14155776000000000 (by have h1 := mulc 737280000000 hN.p hN.yz (by decide); have h2 := mulc 737280000000 hN.xz hN.q (by decide); omega : -1474560000000 ≤ n.p * n.yz - n.xz * n.q ∧ n.p * n.yz - n.xz * n.q ≤ 1474560000000) hN.xz (by decide)) (by decide)) (Go.Sr.wid (mulc 14155776000000000 (by have h1 := mulc 18432000000 hN.xz hN.xy (by decide); have h2 := mulc 18432000000 hN.xx hN.yz (by decide); omega : -36864000000 ≤ n.xz * n.xy - n.xx * n.yz ∧ n.xz * n.xy - n.xx * n.yz ≤ 36864000000) hN.r (by decide)) (by decide)) (Go.Sr.wid (mulc 14155776000000000 (by have h1 := mulc 294912000000000 hN.xx hN.q (by decide); have h2 := mulc 294912000000000 hN.p hN.xy (by decide); omega : -589824000000000 ≤ n.xx * n.q - n.p * n.xy ∧ n.xx * n.q - n.p * n.xy ≤ 589824000000000) hN.zz (by decide)) (by decide))
  have D2 := rdet_q n.xx n.xy n.p n.xy n.yy n.q n.xz n.yz n.r (Go.Sr.wid (mulc 147456000000000 hN.xy hN.q (by decide)) (by decide)) (Go.Sr.wid (mulc 147456000000000 hN.p hN.yy (by decide)) (by decide)) (Go.Sr.wid (mulc 294912000000000 hN.p hN.xy (by decide)) (by decide)) (Go.Sr.wid (mulc 294912000000000 hN.xx hN.q (by decide)) (by decide)) (Go.Sr.wid (mulc 3686400000000 hN.xx hN.yy (by decide)) (by decide)) (Go.Sr.wid (mulc 3686400000000 hN.xy hN.xy (by decide)) (by decide)) (Go.Sr.wid (mulc 2831155200000000000 (by have h1 := mulc 147456000000000 hN.xy hN.q (by decide); have h2 := mulc 147456000000000 hN.p hN.yy (by decide); omega : -294912000000000 ≤ n.xy * n.q - n.p * n.yy ∧ n.xy * n.q - n.p * n.yy ≤ 294912000000000) hN.xz (by decide)) (by decide)) (Go.Sr.wid (mulc 2831155200000000000 (by have h1 := mulc 294912000000000 hN.p hN.xy (by decide); have h2 := mulc 294912000000000 hN.xx hN.q (by decide); omega : -589824000000000 ≤ n.p * n.xy - n.xx * n.q ∧ n.p * n.xy - n.xx * n.q ≤ 589824000000000) hN.yz (by decide)) (by decide)) (Go.Sr.wid (mulc 2831155200000000000 (by have h1 := mulc 3686400000000 hN.xx hN.yy (by decide); have h2 := mulc 3686400000000 hN.xy hN.xy (by decide); omega : -7372800000000 ≤ n.xx * n.yy - n.xy * n.xy ∧ n.xx * n.yy - n.xy * n.xy ≤ 7372800000000) hN.r (by decide)) (by decide))
  have D3 := rdet_q n.xx n.xy n.xz n.xy n.yy n.yz n.xz n.yz n.zz (Go.Sr.wid (mulc 9216000000 hN.xy hN.yz (by decide)) (by decide)) (Go.Sr.wid (mulc 9216000000 hN.xz hN.yy (by decide)) (by decide)) (Go.Sr.wid (mulc 18432000000 hN.xz hN.xy (by decide)) (by decide)) (Go.Sr.wid (mulc 18432000000 hN.xx hN.yz (by decide)) (by decide)) (Go.Sr.wid (mulc 3686400000000 hN.xx hN.yy (by decide)) (by decide)) (Go.Sr.wid (mulc 3686400000000 hN.xy hN.xy (by decide)) (by decide)) (Go.Sr.wid (mulc 176947200000000 (by have h1 := mulc 9216000000 hN.xy hN.yz (by decide); have h2 := mulc 9216000000 hN.xz hN.yy (by decide); omega : -18432000000 ≤ n.xy * n.yz - n.xz * n.yy ∧ n.xy * n.yz - n.xz * n.yy ≤ 18432000000) hN.xz (by decide)) (by decide)) (Go.Sr.wid (mulc 176947200000000 (by have h1 := mulc 18432000000 hN.xz hN.xy (by decide); have h2 := mulc 18432000000 hN.xx hN.yz (by decide); omega : -36864000000 ≤ n.xz * n.xy - n.xx * n.yz ∧ n.xz * n.xy - n.xx * n.yz ≤ 36864000000) hN.yz (by decide)) (by decide)) (Go.Sr.wid (mulc 176947200000000 (by have h1 := mulc 3686400000000 hN.xx hN.yy (by decide); have h2 := mulc 3686400000000 hN.xy hN.xy (by decide); omega : -7372800000000 ≤ n.xx * n.yy - n.xy * n.xy ∧ n.xx * n.yy - n.xy * n.xy ≤ 7372800000000) hN.zz (by decide)) (by decide))
  rw [fit_id0] at D0
  rw [fit_id1] at D1
  rw [fit_id2] at D2
  rw [fit_id3] at D3
  refine PCalls.any ?_ rfl rfl m
  refine PCalls.enter (t := [nmA n, nmF n, undef, undef, undef, undef, undef, undef, undef, undef, undef, undef, undef, undef, undef, undef, undef, undef, undef, undef, undef]) Try.func102 rfl (ro_nil) rfl fun E => ?_
  repeat' (first
    | with_reducible refine Then.n ?_
    | with_reducible refine Then.r ?_
    | with_reducible refine Then.x ?_
    | with_reducible refine InB.n ?_
    | with_reducible refine InB.r ?_
    | with_reducible refine InB.hit ?_
    | with_reducible refine InB.miss (by decide) ?_
    | ((with_reducible refine AL.on ?_); first
      | ((first | ((with_reducible refine AL.k_box ?_); first | (refine AL.w rfl (OW.box (by conv => lhs; whnf) (by intro r h; cases h)) ?_)) | ((with_reducible refine AL.k_alloc ?_); first | refine AL.w rfl (OW.alloc (ty := 101) (z := [.int .i64 0, .int .i64 0, .int .i64 0, .int .i64 0]) (by kernel_rfl) rfl) ?_) | ((with_reducible refine AL.k_store ?_); first | (refine AL.w rfl (OW.store (ty := 101) (n := 4) rfl (by conv => lhs; whnf) rfl rfl (by kernel_rfl) rfl rfl (by decide) rfl (Nat.le_of_ble_eq_true rfl) (by intro r h; cases h)) ?_))); (conv => (arg 5; try tactic => exact nrm)); (conv => (arg 6; try tactic => exact nrm)))
      | refine AL.nil ?_)
    | ((with_reducible refine AW.on ?_); first
      | refine AW.seq ?_
      | refine AW.skip ?_
      | refine AW.exit ?_
      | refine AW.ret ?_
      | refine AW.block ?_
      | (refine AW.draw (id := 1) 16 #[0, 0, 3, 7, 0, 0, 63, 127, 0, 0, 1023, 2047, 4095, 0, 12287, 32767, 65535] (by kernel_rfl) (by kernel_rfl) ?_; (conv => (arg 8; simp only [List.take_succ_cons, List.take_zero])))
      | refine AW.region ?_
      | (refine AW.conds rfl (fun hc => ?_) (fun hc => ?_) <;> (try simp only [decide_eq_true_eq, decide_eq_false_iff_not, Bool.not_true, Bool.not_false, Bool.not_eq_true', Bool.not_eq_false', Int.not_lt, Int.not_le, Classical.not_not, ne_eq] at hc) <;> first | (exfalso; first | contradiction | (omega); done) | skip))
    | ((with_reducible refine AD.on ?_); first
      | ((first | first | refine AD.q rfl (OQ.loadN (ty := 97) (n := 9) rfl (by kernel_rfl) (by kernel_rfl) rfl) rfl rfl rfl ?_ | refine AD.q rfl (OQ.loadN (ty := 65) (n := 3) rfl (by kernel_rfl) (by kernel_rfl) rfl) rfl rfl rfl ?_); (conv => (arg 10; try tactic => exact nrm)))
      | ((first | ((with_reducible refine AD.k_call ?_); first | refine AD.pcall (g := 98) rfl (by kernel_rfl) rfl ((by first | exact P0 _ | exact P1 _ | exact P2 _)) rfl rfl ?_ | refine AD.pcall (g := 97) rfl (by kernel_rfl) rfl ((by first | exact D0 _ | exact D1 _ | exact D2 _ | exact D3 _)) rfl rfl ?_) | ((with_reducible refine AD.k_build ?_); first | refine AD.q rfl (OQ.buildA (ty := 65) (zs := [.int .i64 0, .int .i64 0, .int .i64 0]) (n := 1) (k := 3) (g := false) (by kernel_rfl) rfl (by kernel_rfl) rfl rfl rfl) rfl rfl rfl ?_ | refine AD.q rfl (OQ.buildS (ty := 101) (zs := [.int .i64 0, .int .i64 0, .int .i64 0, .int .i64 0]) (pls := [(0, 3), (3, 1)]) (by kernel_rfl) rfl (by kernel_rfl) rfl rfl rfl) rfl rfl rfl ?_)); (conv => (arg 10; try tactic => exact nrm)))
      | (refine AD.nil ?_; (conv => (arg 4; simp only [List.drop_succ_cons, List.drop_zero, List.drop_nil])); (conv => (arg 5; try tactic => exact nrm)); (conv => (arg 6; try tactic => exact nrm))))
    | ((with_reducible refine FinP.on ?_); (first | refine FinP.ret (.cellN (n := 4) (by conv => lhs; whnf) (by kernel_rfl) (by kernel_rfl) rfl .nil) ?_ rfl | refine FinP.end (.cellN (n := 4) (by conv => lhs; whnf) (by kernel_rfl) (by kernel_rfl) rfl .nil) ?_ rfl); (try simp only [pack, List.drop, List.take]); all_goals (rfl)))
end Go.Proofs.Ytnocdnhhlppahaa
