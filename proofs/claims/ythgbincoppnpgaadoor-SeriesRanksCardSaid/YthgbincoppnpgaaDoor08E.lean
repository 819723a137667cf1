/- Chapter 8: '==' of values of whole numbers. -/
import Derived.Test.YthgbincoppnpgaaDoorAbK
import Derived.Test.YthgbincoppnpgaaDoorProg
set_option linter.unusedSimpArgs false
set_option linter.unusedVariables false
namespace Go.Proofs.YthgbincoppnpgaaDoor
open Go Go.RowKit Go.Ab
set_option maxRecDepth 100000
theorem eqr_t56 (d : Nat) (w : World) (a0 a1 b0 b1 : Int) : (Op.equalIn (d + 2) 56 (.agg #[.int .i64 a0, .int .i64 a1]) (.agg #[.int .i64 b0, .int .i64 b1])).run Tryd.prog w = .ok (decide ((a0, a1) = (b0, b1))) w := by
  unfold Op.equalIn
  simp [Tryd.underlying56, run_underlying, go_sem, List.forIn_cons]
  by_cases h0 : a0 = b0
  case neg => simp [h0]
  by_cases h1 : a1 = b1
  case neg => simp [h0, h1]
  simp [h0, h1]
theorem eql_t56 {t : T} {m : Mem} {dst : Option Tmp} {rt ty' : TypeId} {pos : String} {after : Array Edge} {guard : Option (Nat × Bool)} {x y : Operand} {a0 a1 b0 b1 : Int} (hx : t.ev x = (.agg #[.int .i64 a0, .int .i64 a1])) (hy : t.ev y = (.agg #[.int .i64 b0, .int .i64 b1])) :
    OQ Tryd.prog ⟨dst, .binOp .eql 56 x y ty', rt, pos, after, guard⟩ t m (.bool (decide ((a0, a1) = (b0, b1)))) := by
  refine OQ.closed (fun cs b => by simp) (fun z hz => ?_) (fun w => ?_) rfl
  · simp [Op.operands] at hz
    rcases hz with rfl | rfl
    · rw [hx]; rfl
    · rw [hy]; rfl
  · have e := eqr_t56 9998 w a0 a1 b0 b1
    have hgt : (Tryd.prog).eqGuardType (Tryd.prog).depth 56 = false := by kernel_rfl
    have hg : (eqGuard .eql 56 x y (t.ev x) (t.ev y)).run Tryd.prog w = .ok () w := by
      rw [hx, hy]
      simp [eqGuard, program, Sem.run, Sem.run_bind, hgt]
    rw [hx, hy] at hg
    simp only [execOp, hx, hy, Sem.run_bind, hg, Result.andThen_ok, binOp, Op.equal, Op.maxDepth]
    erw [e]
    simp [go_sem]
theorem nel_t56 {t : T} {m : Mem} {dst : Option Tmp} {rt ty' : TypeId} {pos : String} {after : Array Edge} {guard : Option (Nat × Bool)} {x y : Operand} {a0 a1 b0 b1 : Int} (hx : t.ev x = (.agg #[.int .i64 a0, .int .i64 a1])) (hy : t.ev y = (.agg #[.int .i64 b0, .int .i64 b1])) :
    OQ Tryd.prog ⟨dst, .binOp .neq 56 x y ty', rt, pos, after, guard⟩ t m (.bool (!(decide ((a0, a1) = (b0, b1))))) := by
  refine OQ.closed (fun cs b => by simp) (fun z hz => ?_) (fun w => ?_) rfl
  · simp [Op.operands] at hz
    rcases hz with rfl | rfl
    · rw [hx]; rfl
    · rw [hy]; rfl
  · have e := eqr_t56 9998 w a0 a1 b0 b1
    have hgt : (Tryd.prog).eqGuardType (Tryd.prog).depth 56 = false := by kernel_rfl
    have hg : (eqGuard .neq 56 x y (t.ev x) (t.ev y)).run Tryd.prog w = .ok () w := by
      rw [hx, hy]
      simp [eqGuard, program, Sem.run, Sem.run_bind, hgt]
    rw [hx, hy] at hg
    simp only [execOp, hx, hy, Sem.run_bind, hg, Result.andThen_ok, binOp, Op.equal, Op.maxDepth]
    erw [e]
    simp [go_sem]
theorem eqr_t61 (d : Nat) (w : World) (a0 a1 a2 a3 b0 b1 b2 b3 : Int) : (Op.equalIn (d + 3) 61 (.agg #[.int .i64 a0, .int .i64 a1, .int .i64 a2, .int .i64 a3]) (.agg #[.int .i64 b0, .int .i64 b1, .int .i64 b2, .int .i64 b3])).run Tryd.prog w = .ok (decide ((a0, a1, a2, a3) = (b0, b1, b2, b3))) w := by
  have z56 : (Go.sizeOf 56).run Tryd.prog w = .ok 2 w := by go_simp
  unfold Op.equalIn
  simp [Tryd.underlying61, run_underlying, go_sem, List.range', List.forIn_cons, eqr_t56, z56]
  by_cases h0 : a0 = b0
  case neg => simp [h0]
  by_cases h1 : a1 = b1
  case neg => simp [h0, h1]
  by_cases h2 : a2 = b2
  case neg => simp [h0, h1, h2]
  by_cases h3 : a3 = b3
  case neg => simp [h0, h1, h2, h3]
  simp [h0, h1, h2, h3]
theorem eql_t61 {t : T} {m : Mem} {dst : Option Tmp} {rt ty' : TypeId} {pos : String} {after : Array Edge} {guard : Option (Nat × Bool)} {x y : Operand} {a0 a1 a2 a3 b0 b1 b2 b3 : Int} (hx : t.ev x = (.agg #[.int .i64 a0, .int .i64 a1, .int .i64 a2, .int .i64 a3])) (hy : t.ev y = (.agg #[.int .i64 b0, .int .i64 b1, .int .i64 b2, .int .i64 b3])) :
    OQ Tryd.prog ⟨dst, .binOp .eql 61 x y ty', rt, pos, after, guard⟩ t m (.bool (decide ((a0, a1, a2, a3) = (b0, b1, b2, b3)))) := by
  refine OQ.closed (fun cs b => by simp) (fun z hz => ?_) (fun w => ?_) rfl
  · simp [Op.operands] at hz
    rcases hz with rfl | rfl
    · rw [hx]; rfl
    · rw [hy]; rfl
  · have e := eqr_t61 9997 w a0 a1 a2 a3 b0 b1 b2 b3
    have hgt : (Tryd.prog).eqGuardType (Tryd.prog).depth 61 = false := by kernel_rfl
    have hg : (eqGuard .eql 61 x y (t.ev x) (t.ev y)).run Tryd.prog w = .ok () w := by
      rw [hx, hy]
      simp [eqGuard, program, Sem.run, Sem.run_bind, hgt]
    rw [hx, hy] at hg
    simp only [execOp, hx, hy, Sem.run_bind, hg, Result.andThen_ok, binOp, Op.equal, Op.maxDepth]
    erw [e]
    simp [go_sem]
theorem nel_t61 {t : T} {m : Mem} {dst : Option Tmp} {rt ty' : TypeId} {pos : String} {after : Array Edge} {guard : Option (Nat × Bool)} {x y : Operand} {a0 a1 a2 a3 b0 b1 b2 b3 : Int} (hx : t.ev x = (.agg #[.int .i64 a0, .int .i64 a1, .int .i64 a2, .int .i64 a3])) (hy : t.ev y = (.agg #[.int .i64 b0, .int .i64 b1, .int .i64 b2, .int .i64 b3])) :
    OQ Tryd.prog ⟨dst, .binOp .neq 61 x y ty', rt, pos, after, guard⟩ t m (.bool (!(decide ((a0, a1, a2, a3) = (b0, b1, b2, b3))))) := by
  refine OQ.closed (fun cs b => by simp) (fun z hz => ?_) (fun w => ?_) rfl
  · simp [Op.operands] at hz
    rcases hz with rfl | rfl
    · rw [hx]; rfl
    · rw [hy]; rfl
  · have e := eqr_t61 9997 w a0 a1 a2 a3 b0 b1 b2 b3
    have hgt : (Tryd.prog).eqGuardType (Tryd.prog).depth 61 = false := by kernel_rfl
    have hg : (eqGuard .neq 61 x y (t.ev x) (t.ev y)).run Tryd.prog w = .ok () w := by
      rw [hx, hy]
      simp [eqGuard, program, Sem.run, Sem.run_bind, hgt]
    rw [hx, hy] at hg
    simp only [execOp, hx, hy, Sem.run_bind, hg, Result.andThen_ok, binOp, Op.equal, Op.maxDepth]
    erw [e]
    simp [go_sem]
theorem eqr_t45 (d : Nat) (w : World) (a0 a1 b0 b1 : Int) : (Op.equalIn (d + 2) 45 (.agg #[.int .i64 a0, .int .i64 a1]) (.agg #[.int .i64 b0, .int .i64 b1])).run Tryd.prog w = .ok (decide ((a0, a1) = (b0, b1))) w := by
  unfold Op.equalIn
  simp [Tryd.underlying45, run_underlying, go_sem, List.forIn_cons]
  by_cases h0 : a0 = b0
  case neg => simp [h0]
  by_cases h1 : a1 = b1
  case neg => simp [h0, h1]
  simp [h0, h1]
theorem eql_t45 {t : T} {m : Mem} {dst : Option Tmp} {rt ty' : TypeId} {pos : String} {after : Array Edge} {guard : Option (Nat × Bool)} {x y : Operand} {a0 a1 b0 b1 : Int} (hx : t.ev x = (.agg #[.int .i64 a0, .int .i64 a1])) (hy : t.ev y = (.agg #[.int .i64 b0, .int .i64 b1])) :
    OQ Tryd.prog ⟨dst, .binOp .eql 45 x y ty', rt, pos, after, guard⟩ t m (.bool (decide ((a0, a1) = (b0, b1)))) := by
  refine OQ.closed (fun cs b => by simp) (fun z hz => ?_) (fun w => ?_) rfl
  · simp [Op.operands] at hz
    rcases hz with rfl | rfl
    · rw [hx]; rfl
    · rw [hy]; rfl
  · have e := eqr_t45 9998 w a0 a1 b0 b1
    have hgt : (Tryd.prog).eqGuardType (Tryd.prog).depth 45 = false := by kernel_rfl
    have hg : (eqGuard .eql 45 x y (t.ev x) (t.ev y)).run Tryd.prog w = .ok () w := by
      rw [hx, hy]
      simp [eqGuard, program, Sem.run, Sem.run_bind, hgt]
    rw [hx, hy] at hg
    simp only [execOp, hx, hy, Sem.run_bind, hg, Result.andThen_ok, binOp, Op.equal, Op.maxDepth]
    erw [e]
    simp [go_sem]
theorem nel_t45 {t : T} {m : Mem} {dst : Option Tmp} {rt ty' : TypeId} {pos : String} {after : Array Edge} {guard : Option (Nat × Bool)} {x y : Operand} {a0 a1 b0 b1 : Int} (hx : t.ev x = (.agg #[.int .i64 a0, .int .i64 a1])) (hy : t.ev y = (.agg #[.int .i64 b0, .int .i64 b1])) :
    OQ Tryd.prog ⟨dst, .binOp .neq 45 x y ty', rt, pos, after, guard⟩ t m (.bool (!(decide ((a0, a1) = (b0, b1))))) := by
  refine OQ.closed (fun cs b => by simp) (fun z hz => ?_) (fun w => ?_) rfl
  · simp [Op.operands] at hz
    rcases hz with rfl | rfl
    · rw [hx]; rfl
    · rw [hy]; rfl
  · have e := eqr_t45 9998 w a0 a1 b0 b1
    have hgt : (Tryd.prog).eqGuardType (Tryd.prog).depth 45 = false := by kernel_rfl
    have hg : (eqGuard .neq 45 x y (t.ev x) (t.ev y)).run Tryd.prog w = .ok () w := by
      rw [hx, hy]
      simp [eqGuard, program, Sem.run, Sem.run_bind, hgt]
    rw [hx, hy] at hg
    simp only [execOp, hx, hy, Sem.run_bind, hg, Result.andThen_ok, binOp, Op.equal, Op.maxDepth]
    erw [e]
    simp [go_sem]
theorem eqr_t46 (d : Nat) (w : World) (a0 a1 a2 a3 a4 a5 b0 b1 b2 b3 b4 b5 : Int) : (Op.equalIn (d + 3) 46 (.agg #[.int .i64 a0, .int .i64 a1, .int .i64 a2, .int .i64 a3, .int .i64 a4, .int .i64 a5]) (.agg #[.int .i64 b0, .int .i64 b1, .int .i64 b2, .int .i64 b3, .int .i64 b4, .int .i64 b5])).run Tryd.prog w = .ok (decide ((a0, a1, a2, a3, a4, a5) = (b0, b1, b2, b3, b4, b5))) w := by
  have z45 : (Go.sizeOf 45).run Tryd.prog w = .ok 2 w := by go_simp
  unfold Op.equalIn
  simp [Tryd.underlying46, run_underlying, go_sem, List.range', List.forIn_cons, eqr_t45, z45]
  by_cases h0 : a0 = b0
  case neg => simp [h0]
  by_cases h1 : a1 = b1
  case neg => simp [h0, h1]
  by_cases h2 : a2 = b2
  case neg => simp [h0, h1, h2]
  by_cases h3 : a3 = b3
  case neg => simp [h0, h1, h2, h3]
  by_cases h4 : a4 = b4
  case neg => simp [h0, h1, h2, h3, h4]
  by_cases h5 : a5 = b5
  case neg => simp [h0, h1, h2, h3, h4, h5]
  simp [h0, h1, h2, h3, h4, h5]
theorem eql_t46 {t : T} {m : Mem} {dst : Option Tmp} {rt ty' : TypeId} {pos : String} {after : Array Edge} {guard : Option (Nat × Bool)} {x y : Operand} {a0 a1 a2 a3 a4 a5 b0 b1 b2 b3 b4 b5 : Int} (hx : t.ev x = (.agg #[.int .i64 a0, .int .i64 a1, .int .i64 a2, .int .i64 a3, .int .i64 a4, .int .i64 a5])) (hy : t.ev y = (.agg #[.int .i64 b0, .int .i64 b1, .int .i64 b2, .int .i64 b3, .int .i64 b4, .int .i64 b5])) :
    OQ Tryd.prog ⟨dst, .binOp .eql 46 x y ty', rt, pos, after, guard⟩ t m (.bool (decide ((a0, a1, a2, a3, a4, a5) = (b0, b1, b2, b3, b4, b5)))) := by
  refine OQ.closed (fun cs b => by simp) (fun z hz => ?_) (fun w => ?_) rfl
  · simp [Op.operands] at hz
    rcases hz with rfl | rfl
    · rw [hx]; rfl
    · rw [hy]; rfl
  · have e := eqr_t46 9997 w a0 a1 a2 a3 a4 a5 b0 b1 b2 b3 b4 b5
    have hgt : (Tryd.prog).eqGuardType (Tryd.prog).depth 46 = false := by kernel_rfl
    have hg : (eqGuard .eql 46 x y (t.ev x) (t.ev y)).run Tryd.prog w = .ok () w := by
      rw [hx, hy]
      simp [eqGuard, program, Sem.run, Sem.run_bind, hgt]
    rw [hx, hy] at hg
    simp only [execOp, hx, hy, Sem.run_bind, hg, Result.andThen_ok, binOp, Op.equal, Op.maxDepth]
    erw [e]
    simp [go_sem]
theorem nel_t46 {t : T} {m : Mem} {dst : Option Tmp} {rt ty' : TypeId} {pos : String} {after : Array Edge} {guard : Option (Nat × Bool)} {x y : Operand} {a0 a1 a2 a3 a4 a5 b0 b1 b2 b3 b4 b5 : Int} (hx : t.ev x = (.agg #[.int .i64 a0, .int .i64 a1, .int .i64 a2, .int .i64 a3, .int .i64 a4, .int .i64 a5])) (hy : t.ev y = (.agg #[.int .i64 b0, .int .i64 b1, .int .i64 b2, .int .i64 b3, .int .i64 b4, .int .i64 b5])) :
    OQ Tryd.prog ⟨dst, .binOp .neq 46 x y ty', rt, pos, after, guard⟩ t m (.bool (!(decide ((a0, a1, a2, a3, a4, a5) = (b0, b1, b2, b3, b4, b5))))) := by
  refine OQ.closed (fun cs b => by simp) (fun z hz => ?_) (fun w => ?_) rfl
  · simp [Op.operands] at hz
    rcases hz with rfl | rfl
    · rw [hx]; rfl
    · rw [hy]; rfl
  · have e := eqr_t46 9997 w a0 a1 a2 a3 a4 a5 b0 b1 b2 b3 b4 b5
    have hgt : (Tryd.prog).eqGuardType (Tryd.prog).depth 46 = false := by kernel_rfl
    have hg : (eqGuard .neq 46 x y (t.ev x) (t.ev y)).run Tryd.prog w = .ok () w := by
      rw [hx, hy]
      simp [eqGuard, program, Sem.run, Sem.run_bind, hgt]
    rw [hx, hy] at hg
    simp only [execOp, hx, hy, Sem.run_bind, hg, Result.andThen_ok, binOp, Op.equal, Op.maxDepth]
    erw [e]
    simp [go_sem]
theorem eqr_t52 (d : Nat) (w : World) (a0 a1 a2 a3 b0 b1 b2 b3 : Int) : (Op.equalIn (d + 3) 52 (.agg #[.int .i64 a0, .int .i64 a1, .int .i64 a2, .int .i64 a3]) (.agg #[.int .i64 b0, .int .i64 b1, .int .i64 b2, .int .i64 b3])).run Tryd.prog w = .ok (decide ((a0, a1, a2, a3) = (b0, b1, b2, b3))) w := by
  have z45 : (Go.sizeOf 45).run Tryd.prog w = .ok 2 w := by go_simp
  unfold Op.equalIn
  simp [Tryd.underlying52, run_underlying, go_sem, List.range', List.forIn_cons, eqr_t45, z45]
  by_cases h0 : a0 = b0
  case neg => simp [h0]
  by_cases h1 : a1 = b1
  case neg => simp [h0, h1]
  by_cases h2 : a2 = b2
  case neg => simp [h0, h1, h2]
  by_cases h3 : a3 = b3
  case neg => simp [h0, h1, h2, h3]
  simp [h0, h1, h2, h3]
theorem eql_t52 {t : T} {m : Mem} {dst : Option Tmp} {rt ty' : TypeId} {pos : String} {after : Array Edge} {guard : Option (Nat × Bool)} {x y : Operand} {a0 a1 a2 a3 b0 b1 b2 b3 : Int} (hx : t.ev x = (.agg #[.int .i64 a0, .int .i64 a1, .int .i64 a2, .int .i64 a3])) (hy : t.ev y = (.agg #[.int .i64 b0, .int .i64 b1, .int .i64 b2, .int .i64 b3])) :
    OQ Tryd.prog ⟨dst, .binOp .eql 52 x y ty', rt, pos, after, guard⟩ t m (.bool (decide ((a0, a1, a2, a3) = (b0, b1, b2, b3)))) := by
  refine OQ.closed (fun cs b => by simp) (fun z hz => ?_) (fun w => ?_) rfl
  · simp [Op.operands] at hz
    rcases hz with rfl | rfl
    · rw [hx]; rfl
    · rw [hy]; rfl
  · have e := eqr_t52 9997 w a0 a1 a2 a3 b0 b1 b2 b3
    have hgt : (Tryd.prog).eqGuardType (Tryd.prog).depth 52 = false := by kernel_rfl
    have hg : (eqGuard .eql 52 x y (t.ev x) (t.ev y)).run Tryd.prog w = .ok () w := by
      rw [hx, hy]
      simp [eqGuard, program, Sem.run, Sem.run_bind, hgt]
    rw [hx, hy] at hg
    simp only [execOp, hx, hy, Sem.run_bind, hg, Result.andThen_ok, binOp, Op.equal, Op.maxDepth]
    erw [e]
    simp [go_sem]
theorem nel_t52 {t : T} {m : Mem} {dst : Option Tmp} {rt ty' : TypeId} {pos : String} {after : Array Edge} {guard : Option (Nat × Bool)} {x y : Operand} {a0 a1 a2 a3 b0 b1 b2 b3 : Int} (hx : t.ev x = (.agg #[.int .i64 a0, .int .i64 a1, .int .i64 a2, .int .i64 a3])) (hy : t.ev y = (.agg #[.int .i64 b0, .int .i64 b1, .int .i64 b2, .int .i64 b3])) :
    OQ Tryd.prog ⟨dst, .binOp .neq 52 x y ty', rt, pos, after, guard⟩ t m (.bool (!(decide ((a0, a1, a2, a3) = (b0, b1, b2, b3))))) := by
  refine OQ.closed (fun cs b => by simp) (fun z hz => ?_) (fun w => ?_) rfl
  · simp [Op.operands] at hz
    rcases hz with rfl | rfl
    · rw [hx]; rfl
    · rw [hy]; rfl
  · have e := eqr_t52 9997 w a0 a1 a2 a3 b0 b1 b2 b3
    have hgt : (Tryd.prog).eqGuardType (Tryd.prog).depth 52 = false := by kernel_rfl
    have hg : (eqGuard .neq 52 x y (t.ev x) (t.ev y)).run Tryd.prog w = .ok () w := by
      rw [hx, hy]
      simp [eqGuard, program, Sem.run, Sem.run_bind, hgt]
    rw [hx, hy] at hg
    simp only [execOp, hx, hy, Sem.run_bind, hg, Result.andThen_ok, binOp, Op.equal, Op.maxDepth]
    erw [e]
    simp [go_sem]
theorem eqr_t28 (d : Nat) (w : World) (a0 a1 a2 b0 b1 b2 : Int) : (Op.equalIn (d + 2) 28 (.agg #[.int .i64 a0, .int .i64 a1, .int .i64 a2]) (.agg #[.int .i64 b0, .int .i64 b1, .int .i64 b2])).run Tryd.prog w = .ok (decide ((a0, a1, a2) = (b0, b1, b2))) w := by
  unfold Op.equalIn
  simp [Tryd.underlying28, run_underlying, go_sem, List.range', List.forIn_cons]
  by_cases h0 : a0 = b0
  case neg => simp [h0]
  by_cases h1 : a1 = b1
  case neg => simp [h0, h1]
  by_cases h2 : a2 = b2
  case neg => simp [h0, h1, h2]
  simp [h0, h1, h2]
theorem eql_t28 {t : T} {m : Mem} {dst : Option Tmp} {rt ty' : TypeId} {pos : String} {after : Array Edge} {guard : Option (Nat × Bool)} {x y : Operand} {a0 a1 a2 b0 b1 b2 : Int} (hx : t.ev x = (.agg #[.int .i64 a0, .int .i64 a1, .int .i64 a2])) (hy : t.ev y = (.agg #[.int .i64 b0, .int .i64 b1, .int .i64 b2])) :
    OQ Tryd.prog ⟨dst, .binOp .eql 28 x y ty', rt, pos, after, guard⟩ t m (.bool (decide ((a0, a1, a2) = (b0, b1, b2)))) := by
  refine OQ.closed (fun cs b => by simp) (fun z hz => ?_) (fun w => ?_) rfl
  · simp [Op.operands] at hz
    rcases hz with rfl | rfl
    · rw [hx]; rfl
    · rw [hy]; rfl
  · have e := eqr_t28 9998 w a0 a1 a2 b0 b1 b2
    have hgt : (Tryd.prog).eqGuardType (Tryd.prog).depth 28 = false := by kernel_rfl
    have hg : (eqGuard .eql 28 x y (t.ev x) (t.ev y)).run Tryd.prog w = .ok () w := by
      rw [hx, hy]
      simp [eqGuard, program, Sem.run, Sem.run_bind, hgt]
    rw [hx, hy] at hg
    simp only [execOp, hx, hy, Sem.run_bind, hg, Result.andThen_ok, binOp, Op.equal, Op.maxDepth]
    erw [e]
    simp [go_sem]
theorem nel_t28 {t : T} {m : Mem} {dst : Option Tmp} {rt ty' : TypeId} {pos : String} {after : Array Edge} {guard : Option (Nat × Bool)} {x y : Operand} {a0 a1 a2 b0 b1 b2 : Int} (hx : t.ev x = (.agg #[.int .i64 a0, .int .i64 a1, .int .i64 a2])) (hy : t.ev y = (.agg #[.int .i64 b0, .int .i64 b1, .int .i64 b2])) :
    OQ Tryd.prog ⟨dst, .binOp .neq 28 x y ty', rt, pos, after, guard⟩ t m (.bool (!(decide ((a0, a1, a2) = (b0, b1, b2))))) := by
  refine OQ.closed (fun cs b => by simp) (fun z hz => ?_) (fun w => ?_) rfl
  · simp [Op.operands] at hz
    rcases hz with rfl | rfl
    · rw [hx]; rfl
    · rw [hy]; rfl
  · have e := eqr_t28 9998 w a0 a1 a2 b0 b1 b2
    have hgt : (Tryd.prog).eqGuardType (Tryd.prog).depth 28 = false := by kernel_rfl
    have hg : (eqGuard .neq 28 x y (t.ev x) (t.ev y)).run Tryd.prog w = .ok () w := by
      rw [hx, hy]
      simp [eqGuard, program, Sem.run, Sem.run_bind, hgt]
    rw [hx, hy] at hg
    simp only [execOp, hx, hy, Sem.run_bind, hg, Result.andThen_ok, binOp, Op.equal, Op.maxDepth]
    erw [e]
    simp [go_sem]
theorem eqr_t81 (d : Nat) (w : World) (a0 a1 a2 a3 b0 b1 b2 b3 : Int) : (Op.equalIn (d + 2) 81 (.agg #[.int .i64 a0, .int .i64 a1, .int .i64 a2, .int .i64 a3]) (.agg #[.int .i64 b0, .int .i64 b1, .int .i64 b2, .int .i64 b3])).run Tryd.prog w = .ok (decide ((a0, a1, a2, a3) = (b0, b1, b2, b3))) w := by
  unfold Op.equalIn
  simp [Tryd.underlying81, run_underlying, go_sem, List.forIn_cons]
  by_cases h0 : a0 = b0
  case neg => simp [h0]
  by_cases h1 : a1 = b1
  case neg => simp [h0, h1]
  by_cases h2 : a2 = b2
  case neg => simp [h0, h1, h2]
  by_cases h3 : a3 = b3
  case neg => simp [h0, h1, h2, h3]
  simp [h0, h1, h2, h3]
theorem eql_t81 {t : T} {m : Mem} {dst : Option Tmp} {rt ty' : TypeId} {pos : String} {after : Array Edge} {guard : Option (Nat × Bool)} {x y : Operand} {a0 a1 a2 a3 b0 b1 b2 b3 : Int} (hx : t.ev x = (.agg #[.int .i64 a0, .int .i64 a1, .int .i64 a2, .int .i64 a3])) (hy : t.ev y = (.agg #[.int .i64 b0, .int .i64 b1, .int .i64 b2, .int .i64 b3])) :
    OQ Tryd.prog ⟨dst, .binOp .eql 81 x y ty', rt, pos, after, guard⟩ t m (.bool (decide ((a0, a1, a2, a3) = (b0, b1, b2, b3)))) := by
  refine OQ.closed (fun cs b => by simp) (fun z hz => ?_) (fun w => ?_) rfl
  · simp [Op.operands] at hz
    rcases hz with rfl | rfl
    · rw [hx]; rfl
    · rw [hy]; rfl
  · have e := eqr_t81 9998 w a0 a1 a2 a3 b0 b1 b2 b3
    have hgt : (Tryd.prog).eqGuardType (Tryd.prog).depth 81 = false := by kernel_rfl
    have hg : (eqGuard .eql 81 x y (t.ev x) (t.ev y)).run Tryd.prog w = .ok () w := by
      rw [hx, hy]
      simp [eqGuard, program, Sem.run, Sem.run_bind, hgt]
    rw [hx, hy] at hg
    simp only [execOp, hx, hy, Sem.run_bind, hg, Result.andThen_ok, binOp, Op.equal, Op.maxDepth]
    erw [e]
    simp [go_sem]
theorem nel_t81 {t : T} {m : Mem} {dst : Option Tmp} {rt ty' : TypeId} {pos : String} {after : Array Edge} {guard : Option (Nat × Bool)} {x y : Operand} {a0 a1 a2 a3 b0 b1 b2 b3 : Int} (hx : t.ev x = (.agg #[.int .i64 a0, .int .i64 a1, .int .i64 a2, .int .i64 a3])) (hy : t.ev y = (.agg #[.int .i64 b0, .int .i64 b1, .int .i64 b2, .int .i64 b3])) :
    OQ Tryd.prog ⟨dst, .binOp .neq 81 x y ty', rt, pos, after, guard⟩ t m (.bool (!(decide ((a0, a1, a2, a3) = (b0, b1, b2, b3))))) := by
  refine OQ.closed (fun cs b => by simp) (fun z hz => ?_) (fun w => ?_) rfl
  · simp [Op.operands] at hz
    rcases hz with rfl | rfl
    · rw [hx]; rfl
    · rw [hy]; rfl
  · have e := eqr_t81 9998 w a0 a1 a2 a3 b0 b1 b2 b3
    have hgt : (Tryd.prog).eqGuardType (Tryd.prog).depth 81 = false := by kernel_rfl
    have hg : (eqGuard .neq 81 x y (t.ev x) (t.ev y)).run Tryd.prog w = .ok () w := by
      rw [hx, hy]
      simp [eqGuard, program, Sem.run, Sem.run_bind, hgt]
    rw [hx, hy] at hg
    simp only [execOp, hx, hy, Sem.run_bind, hg, Result.andThen_ok, binOp, Op.equal, Op.maxDepth]
    erw [e]
    simp [go_sem]
end Go.Proofs.YthgbincoppnpgaaDoor
