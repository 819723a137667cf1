/- Chapter 8: '==' of values of whole numbers. -/
import Derived.Test.YtmghmmmfdbafoaaGreatDoorAbK
import Derived.Test.YtmghmmmfdbafoaaGreatDoorProg
set_option linter.unusedSimpArgs false
set_option linter.unusedVariables false
namespace Go.Proofs.YtmghmmmfdbafoaaGreatDoor
open Go Go.RowKit Go.Ab
set_option maxRecDepth 100000
theorem eqr_t49 (d : Nat) (w : World) (a0 a1 b0 b1 : Int) : (Op.equalIn (d + 2) 49 (.agg #[.int .i64 a0, .int .i64 a1]) (.agg #[.int .i64 b0, .int .i64 b1])).run Tryz.prog w = .ok (decide ((a0, a1) = (b0, b1))) w := by
  unfold Op.equalIn
  simp [Tryz.underlying49, run_underlying, go_sem, List.forIn_cons]
  by_cases h0 : a0 = b0
  case neg => simp [h0]
  by_cases h1 : a1 = b1
  case neg => simp [h0, h1]
  simp [h0, h1]
theorem eql_t49 {t : T} {m : Mem} {dst : Option Tmp} {rt ty' : TypeId} {pos : String} {after : Array Edge} {guard : Option (Nat × Bool)} {x y : Operand} {a0 a1 b0 b1 : Int} (hx : t.ev x = (.agg #[.int .i64 a0, .int .i64 a1])) (hy : t.ev y = (.agg #[.int .i64 b0, .int .i64 b1])) :
    OQ Tryz.prog ⟨dst, .binOp .eql 49 x y ty', rt, pos, after, guard⟩ t m (.bool (decide ((a0, a1) = (b0, b1)))) := by
  refine OQ.closed (fun cs b => by simp) (fun z hz => ?_) (fun w => ?_) rfl
  · simp [Op.operands] at hz
    rcases hz with rfl | rfl
    · rw [hx]; rfl
    · rw [hy]; rfl
  · have e := eqr_t49 9998 w a0 a1 b0 b1
    have hgt : (Tryz.prog).eqGuardType (Tryz.prog).depth 49 = false := by kernel_rfl
    have hg : (eqGuard .eql 49 x y (t.ev x) (t.ev y)).run Tryz.prog w = .ok () w := by
      rw [hx, hy]
      simp [eqGuard, program, Sem.run, Sem.run_bind, hgt]
    rw [hx, hy] at hg
    simp only [execOp, hx, hy, Sem.run_bind, hg, Result.andThen_ok, binOp, Op.equal, Op.maxDepth]
    erw [e]
    simp [go_sem]
theorem eqr_t54 (d : Nat) (w : World) (a0 a1 a2 a3 b0 b1 b2 b3 : Int) : (Op.equalIn (d + 3) 54 (.agg #[.int .i64 a0, .int .i64 a1, .int .i64 a2, .int .i64 a3]) (.agg #[.int .i64 b0, .int .i64 b1, .int .i64 b2, .int .i64 b3])).run Tryz.prog w = .ok (decide ((a0, a1, a2, a3) = (b0, b1, b2, b3))) w := by
  have z49 : (Go.sizeOf 49).run Tryz.prog w = .ok 2 w := by go_simp
  unfold Op.equalIn
  simp [Tryz.underlying54, run_underlying, go_sem, List.range', List.forIn_cons, eqr_t49, z49]
  by_cases h0 : a0 = b0
  case neg => simp [h0]
  by_cases h1 : a1 = b1
  case neg => simp [h0, h1]
  by_cases h2 : a2 = b2
  case neg => simp [h0, h1, h2]
  by_cases h3 : a3 = b3
  case neg => simp [h0, h1, h2, h3]
  simp [h0, h1, h2, h3]
theorem eql_t54 {t : T} {m : Mem} {dst : Option Tmp} {rt ty' : TypeId} {pos : String} {after : Array Edge} {guard : Option (Nat × Bool)} {x y : Operand} {a0 a1 a2 a3 b0 b1 b2 b3 : Int} (hx : t.ev x = (.agg #[.int .i64 a0, .int .i64 a1, .int .i64 a2, .int .i64 a3])) (hy : t.ev y = (.agg #[.int .i64 b0, .int .i64 b1, .int .i64 b2, .int .i64 b3])) :
    OQ Tryz.prog ⟨dst, .binOp .eql 54 x y ty', rt, pos, after, guard⟩ t m (.bool (decide ((a0, a1, a2, a3) = (b0, b1, b2, b3)))) := by
  refine OQ.closed (fun cs b => by simp) (fun z hz => ?_) (fun w => ?_) rfl
  · simp [Op.operands] at hz
    rcases hz with rfl | rfl
    · rw [hx]; rfl
    · rw [hy]; rfl
  · have e := eqr_t54 9997 w a0 a1 a2 a3 b0 b1 b2 b3
    have hgt : (Tryz.prog).eqGuardType (Tryz.prog).depth 54 = false := by kernel_rfl
    have hg : (eqGuard .eql 54 x y (t.ev x) (t.ev y)).run Tryz.prog w = .ok () w := by
      rw [hx, hy]
      simp [eqGuard, program, Sem.run, Sem.run_bind, hgt]
    rw [hx, hy] at hg
    simp only [execOp, hx, hy, Sem.run_bind, hg, Result.andThen_ok, binOp, Op.equal, Op.maxDepth]
    erw [e]
    simp [go_sem]
theorem eqr_t40 (d : Nat) (w : World) (a0 a1 b0 b1 : Int) : (Op.equalIn (d + 2) 40 (.agg #[.int .i64 a0, .int .i64 a1]) (.agg #[.int .i64 b0, .int .i64 b1])).run Tryz.prog w = .ok (decide ((a0, a1) = (b0, b1))) w := by
  unfold Op.equalIn
  simp [Tryz.underlying40, run_underlying, go_sem, List.forIn_cons]
  by_cases h0 : a0 = b0
  case neg => simp [h0]
  by_cases h1 : a1 = b1
  case neg => simp [h0, h1]
  simp [h0, h1]
theorem eql_t40 {t : T} {m : Mem} {dst : Option Tmp} {rt ty' : TypeId} {pos : String} {after : Array Edge} {guard : Option (Nat × Bool)} {x y : Operand} {a0 a1 b0 b1 : Int} (hx : t.ev x = (.agg #[.int .i64 a0, .int .i64 a1])) (hy : t.ev y = (.agg #[.int .i64 b0, .int .i64 b1])) :
    OQ Tryz.prog ⟨dst, .binOp .eql 40 x y ty', rt, pos, after, guard⟩ t m (.bool (decide ((a0, a1) = (b0, b1)))) := by
  refine OQ.closed (fun cs b => by simp) (fun z hz => ?_) (fun w => ?_) rfl
  · simp [Op.operands] at hz
    rcases hz with rfl | rfl
    · rw [hx]; rfl
    · rw [hy]; rfl
  · have e := eqr_t40 9998 w a0 a1 b0 b1
    have hgt : (Tryz.prog).eqGuardType (Tryz.prog).depth 40 = false := by kernel_rfl
    have hg : (eqGuard .eql 40 x y (t.ev x) (t.ev y)).run Tryz.prog w = .ok () w := by
      rw [hx, hy]
      simp [eqGuard, program, Sem.run, Sem.run_bind, hgt]
    rw [hx, hy] at hg
    simp only [execOp, hx, hy, Sem.run_bind, hg, Result.andThen_ok, binOp, Op.equal, Op.maxDepth]
    erw [e]
    simp [go_sem]
theorem eqr_t64 (d : Nat) (w : World) (a0 a1 a2 a3 b0 b1 b2 b3 : Int) : (Op.equalIn (d + 2) 64 (.agg #[.int .i64 a0, .int .i64 a1, .int .i64 a2, .int .i64 a3]) (.agg #[.int .i64 b0, .int .i64 b1, .int .i64 b2, .int .i64 b3])).run Tryz.prog w = .ok (decide ((a0, a1, a2, a3) = (b0, b1, b2, b3))) w := by
  unfold Op.equalIn
  simp [Tryz.underlying64, run_underlying, go_sem, List.forIn_cons]
  by_cases h0 : a0 = b0
  case neg => simp [h0]
  by_cases h1 : a1 = b1
  case neg => simp [h0, h1]
  by_cases h2 : a2 = b2
  case neg => simp [h0, h1, h2]
  by_cases h3 : a3 = b3
  case neg => simp [h0, h1, h2, h3]
  simp [h0, h1, h2, h3]
theorem nel_t64 {t : T} {m : Mem} {dst : Option Tmp} {rt ty' : TypeId} {pos : String} {after : Array Edge} {guard : Option (Nat × Bool)} {x y : Operand} {a0 a1 a2 a3 b0 b1 b2 b3 : Int} (hx : t.ev x = (.agg #[.int .i64 a0, .int .i64 a1, .int .i64 a2, .int .i64 a3])) (hy : t.ev y = (.agg #[.int .i64 b0, .int .i64 b1, .int .i64 b2, .int .i64 b3])) :
    OQ Tryz.prog ⟨dst, .binOp .neq 64 x y ty', rt, pos, after, guard⟩ t m (.bool (!(decide ((a0, a1, a2, a3) = (b0, b1, b2, b3))))) := by
  refine OQ.closed (fun cs b => by simp) (fun z hz => ?_) (fun w => ?_) rfl
  · simp [Op.operands] at hz
    rcases hz with rfl | rfl
    · rw [hx]; rfl
    · rw [hy]; rfl
  · have e := eqr_t64 9998 w a0 a1 a2 a3 b0 b1 b2 b3
    have hgt : (Tryz.prog).eqGuardType (Tryz.prog).depth 64 = false := by kernel_rfl
    have hg : (eqGuard .neq 64 x y (t.ev x) (t.ev y)).run Tryz.prog w = .ok () w := by
      rw [hx, hy]
      simp [eqGuard, program, Sem.run, Sem.run_bind, hgt]
    rw [hx, hy] at hg
    simp only [execOp, hx, hy, Sem.run_bind, hg, Result.andThen_ok, binOp, Op.equal, Op.maxDepth]
    erw [e]
    simp [go_sem]
end Go.Proofs.YtmghmmmfdbafoaaGreatDoor
