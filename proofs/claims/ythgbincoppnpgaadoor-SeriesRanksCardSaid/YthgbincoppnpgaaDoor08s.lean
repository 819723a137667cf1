/- Chapter 8: the reference: rows, normal equations, determinants, the fit. -/
import Derived.Test.YthgbincoppnpgaaDoor08r
set_option linter.unusedSimpArgs false
set_option linter.unusedVariables false
namespace Go.Proofs.YthgbincoppnpgaaDoor
open Go Go.RowKit Go.Ab Go.Sr
set_option maxRecDepth 100000
set_option maxHeartbeats 4000000
attribute [local irreducible] OQ OW AL AW AD AF SW

theorem _root_.Go.Sr.wid {a A B : Int} (h : -A ≤ a ∧ a ≤ A) (hB : A ≤ B) : -B ≤ a ∧ a ≤ B := by omega
abbrev vV (v : V3) : Value := .agg #[.int .i64 v.1, .int .i64 v.2.1, .int .i64 v.2.2]
theorem cross_q (a b c x y z : Int) (h1 : -3000000000000000000 ≤ b * z ∧ b * z ≤ 3000000000000000000) (h2 : -3000000000000000000 ≤ c * y ∧ c * y ≤ 3000000000000000000) (h3 : -3000000000000000000 ≤ c * x ∧ c * x ≤ 3000000000000000000) (h4 : -3000000000000000000 ≤ a * z ∧ a * z ≤ 3000000000000000000) (h5 : -3000000000000000000 ≤ a * y ∧ a * y ≤ 3000000000000000000) (h6 : -3000000000000000000 ≤ b * x ∧ b * x ≤ 3000000000000000000) (m : Mem) :
    PCalls Tryd.prog 50 [.agg #[.int .i64 a, .int .i64 b, .int .i64 c], .agg #[.int .i64 x, .int .i64 y, .int .i64 z]] m (.agg #[.int .i64 (b * z - c * y), .int .i64 (c * x - a * z), .int .i64 (a * y - b * x)]) := by
  refine PCalls.any ?_ rfl rfl m
  refine PCalls.enter (t := [.agg #[.int .i64 a, .int .i64 b, .int .i64 c], .agg #[.int .i64 x, .int .i64 y, .int .i64 z], undef, undef, undef, undef, undef, undef, undef, undef, undef, undef, undef, undef, undef, undef, undef, undef, undef, undef, undef, undef, undef, undef, undef, undef, undef, undef, undef, undef, undef, undef, undef, undef, undef, undef, undef, undef, undef]) Tryd.func50 rfl (ro_nil) rfl fun E => ?_
  repeat' (first
    | with_reducible refine Then.n ?_
    | with_reducible refine Then.r ?_
    | with_reducible refine Then.x ?_
    | with_reducible refine InB.n ?_
    | with_reducible refine InB.r ?_
    | with_reducible refine InB.hit ?_
    | with_reducible refine InB.miss (by decide) ?_
    | ((with_reducible refine AL.on ?_); first
      | ((first | ((with_reducible refine AL.k_indexAddr ?_); first | refine AL.q rfl (OQ.idxPtr (ty := 28) (n := 1) (l := 3) (g := false) rfl rfl (by kernel_rfl) (by omega) (by omega)) ?_) | ((with_reducible refine AL.k_load ?_); first | (refine AL.q rfl (OQ.load1 (ty := 3) rfl (by kernel_rfl) (by conv => lhs; whnf)) ?_)) | ((with_reducible refine AL.k_binOp ?_); first | refine AL.q rfl (OQ.muli rfl rfl (by omega)) ?_ | refine AL.q rfl (OQ.mul rfl rfl) ?_ | refine AL.q rfl (OQ.subi rfl rfl (by omega)) ?_ | refine AL.q rfl (OQ.sub rfl rfl) ?_)); (conv => (arg 5; try tactic => exact nrm)))
      | ((first | first | refine AL.q rfl (OQ.buildA (ty := 28) (zs := [.int .i64 0, .int .i64 0, .int .i64 0]) (n := 1) (k := 3) (g := false) (by kernel_rfl) rfl (by kernel_rfl) rfl rfl rfl) ?_); (conv => (arg 5; try tactic => exact nrm)))
      | ((first | ((with_reducible refine AL.k_box ?_); first | (refine AL.w rfl (OW.box (by conv => lhs; whnf) (by intro r h; cases h)) ?_)) | ((with_reducible refine AL.k_alloc ?_); first | refine AL.w rfl (OW.alloc (ty := 28) (z := [.int .i64 0, .int .i64 0, .int .i64 0]) (by kernel_rfl) rfl) ?_) | ((with_reducible refine AL.k_store ?_); first | (refine AL.w rfl (OW.store (ty := 28) (n := 3) rfl (by conv => lhs; whnf) rfl rfl (by kernel_rfl) rfl rfl (by decide) rfl (Nat.le_of_ble_eq_true rfl) (by intro r h; cases h)) ?_))); (conv => (arg 5; try tactic => exact nrm)); (conv => (arg 6; try tactic => exact nrm)))
      | refine AL.nil ?_)
    | ((with_reducible refine AW.on ?_); first
      | refine AW.seq ?_
      | refine AW.skip ?_
      | refine AW.exit ?_
      | refine AW.ret ?_
      | refine AW.block ?_
      | refine AW.region ?_
      | (refine AW.conds rfl (fun hc => ?_) (fun hc => ?_) <;> (try simp only [decide_eq_true_eq, decide_eq_false_iff_not, Bool.not_true, Bool.not_false, Bool.not_eq_true', Bool.not_eq_false', Int.not_lt, Int.not_le, Classical.not_not, ne_eq] at hc) <;> first | (exfalso; first | contradiction | (omega); done) | skip))
    | ((with_reducible refine FinP.on ?_); (first | refine FinP.ret (.cellN (n := 3) (by conv => lhs; whnf) (by kernel_rfl) (by kernel_rfl) rfl .nil) ?_ rfl | refine FinP.end (.cellN (n := 3) (by conv => lhs; whnf) (by kernel_rfl) (by kernel_rfl) rfl .nil) ?_ rfl); (try simp only [pack, List.drop, List.take]); all_goals (rfl)))
theorem dot_q (a b c x y z : Int) (h1 : -3000000000000000000 ≤ a * x ∧ a * x ≤ 3000000000000000000) (h2 : -3000000000000000000 ≤ b * y ∧ b * y ≤ 3000000000000000000) (h3 : -3000000000000000000 ≤ c * z ∧ c * z ≤ 3000000000000000000) (m : Mem) :
    PCalls Tryd.prog 51 [.agg #[.int .i64 a, .int .i64 b, .int .i64 c], .agg #[.int .i64 x, .int .i64 y, .int .i64 z]] m (.int .i64 (a * x + b * y + c * z)) := by
  refine PCalls.any ?_ rfl rfl m
  refine PCalls.enter (t := [.agg #[.int .i64 a, .int .i64 b, .int .i64 c], .agg #[.int .i64 x, .int .i64 y, .int .i64 z], undef, undef, undef, undef, undef, undef, undef, undef, undef, undef, undef, undef, undef, undef, undef, undef, undef, undef, undef, undef]) Tryd.func51 rfl (ro_nil) rfl fun E => ?_
  repeat' (first
    | with_reducible refine Then.n ?_
    | with_reducible refine Then.r ?_
    | with_reducible refine Then.x ?_
    | with_reducible refine InB.n ?_
    | with_reducible refine InB.r ?_
    | with_reducible refine InB.hit ?_
    | with_reducible refine InB.miss (by decide) ?_
    | ((with_reducible refine AL.on ?_); first
      | ((first | ((with_reducible refine AL.k_indexAddr ?_); first | refine AL.q rfl (OQ.idxPtr (ty := 28) (n := 1) (l := 3) (g := false) rfl rfl (by kernel_rfl) (by omega) (by omega)) ?_) | ((with_reducible refine AL.k_load ?_); first | (refine AL.q rfl (OQ.load1 (ty := 3) rfl (by kernel_rfl) (by conv => lhs; whnf)) ?_)) | ((with_reducible refine AL.k_binOp ?_); first | refine AL.q rfl (OQ.muli rfl rfl (by omega)) ?_ | refine AL.q rfl (OQ.mul rfl rfl) ?_ | refine AL.q rfl (OQ.addi rfl rfl (by omega)) ?_ | refine AL.q rfl (OQ.add rfl rfl) ?_) | ((with_reducible refine AL.k_assign ?_); first | (refine AL.q rfl (OQ.assign (by conv => lhs; whnf)) ?_))); (conv => (arg 5; try tactic => exact nrm)))
      | ((first | first | (refine AL.w rfl (OW.box (by conv => lhs; whnf) (by intro r h; cases h)) ?_)); (conv => (arg 5; try tactic => exact nrm)); (conv => (arg 6; try tactic => exact nrm)))
      | refine AL.nil ?_)
    | ((with_reducible refine AW.on ?_); first
      | refine AW.seq ?_
      | refine AW.skip ?_
      | refine AW.exit ?_
      | refine AW.ret ?_
      | refine AW.block ?_
      | refine AW.region ?_
      | (refine AW.conds rfl (fun hc => ?_) (fun hc => ?_) <;> (try simp only [decide_eq_true_eq, decide_eq_false_iff_not, Bool.not_true, Bool.not_false, Bool.not_eq_true', Bool.not_eq_false', Int.not_lt, Int.not_le, Classical.not_not, ne_eq] at hc) <;> first | (exfalso; first | contradiction | (omega); done) | skip))
    | ((with_reducible refine FinP.on ?_); (first | refine FinP.ret (.tmp (by conv => lhs; whnf) .nil) ?_ rfl | refine FinP.end (.tmp (by conv => lhs; whnf) .nil) ?_ rfl); (try simp only [pack, List.drop, List.take]); all_goals (rfl)))
abbrev nmA (n : Nm) : Value := .agg #[.int .i64 n.xx, .int .i64 n.xy, .int .i64 n.xz, .int .i64 n.xy, .int .i64 n.yy, .int .i64 n.yz, .int .i64 n.xz, .int .i64 n.yz, .int .i64 n.zz]
abbrev nmF (n : Nm) : Value := .agg #[.int .i64 n.p, .int .i64 n.q, .int .i64 n.r]
abbrev fitV (n : Nm) : Value := .agg #[.int .i64 (fitF n 0), .int .i64 (fitF n 1), .int .i64 (fitF n 2), .int .i64 n.det]
theorem fit_id0 (n : Nm) : (n.xy * n.yz - n.xz * n.yy) * n.r + (n.xz * n.q - n.p * n.yz) * n.yz + (n.p * n.yy - n.xy * n.q) * n.zz = fitF n 0 := by
  show _ = (n.yy * n.zz - n.yz * n.yz) * n.p + (n.yz * n.xz - n.zz * n.xy) * n.q + (n.xy * n.yz - n.xz * n.yy) * n.r
  grind
theorem fit_id1 (n : Nm) : (n.p * n.yz - n.xz * n.q) * n.xz + (n.xz * n.xy - n.xx * n.yz) * n.r + (n.xx * n.q - n.p * n.xy) * n.zz = fitF n 1 := by
  show _ = (n.yz * n.xz - n.xy * n.zz) * n.p + (n.zz * n.xx - n.xz * n.xz) * n.q + (n.xz * n.xy - n.xx * n.yz) * n.r
  grind
theorem fit_id2 (n : Nm) : (n.xy * n.q - n.p * n.yy) * n.xz + (n.p * n.xy - n.xx * n.q) * n.yz + (n.xx * n.yy - n.xy * n.xy) * n.r = fitF n 2 := by
  show _ = (n.xy * n.yz - n.yy * n.xz) * n.p + (n.xz * n.xy - n.yz * n.xx) * n.q + (n.xx * n.yy - n.xy * n.xy) * n.r
  grind
theorem fit_id3 (n : Nm) : (n.xy * n.yz - n.xz * n.yy) * n.xz + (n.xz * n.xy - n.xx * n.yz) * n.yz + (n.xx * n.yy - n.xy * n.xy) * n.zz = n.det := by
  unfold Nm.det
  grind
end Go.Proofs.YthgbincoppnpgaaDoor
