/- OrbitStates: the walk of the statement. -/
/- OrbitStates: FormatState and ParseState return what the document specifies, for all states and texts; a right state is read back. -/
import Derived.Test.YthhhkjbhhjcjoaaGreatDoor02ry
import Derived.Test.YthhhkjbhhjcjoaaGreatDoor02lb
import Derived.Test.YthhhkjbhhjcjoaaGreatDoor02E
import Derived.Test.YthhhkjbhhjcjoaaGreatDoor02Claim
import Derived.Test.YthhhkjbhhjcjoaaGreatDoorTie
import Derived.Test.YthhhkjbhhjcjoaaGreatDoorCards
import Derived.LaidLaws
import Derived.LaidMore
import Derived.Handed
import Derived.SevenTiedAt
import Derived.JoinedOf
set_option linter.unusedSimpArgs false
set_option linter.unusedVariables false
section
section
namespace Go.Proofs.YthhhkjbhhjcjoaaGreatDoor
open Go Go.RowKit Go.Ob Go.Ab Go.Lib Go.Tx
set_option maxRecDepth 100000
set_option maxHeartbeats 2000000
theorem eqr_t23 (d : Nat) (w : World) (a0 a1 a2 b0 b1 b2 : Int) : (Op.equalIn (d + 2) 23 (.agg #[.int .i64 a0, .int .i64 a1, .int .i64 a2]) (.agg #[.int .i64 b0, .int .i64 b1, .int .i64 b2])).run Tryz.prog w = .ok (decide ((a0, a1, a2) = (b0, b1, b2))) w := by
  unfold Op.equalIn
  simp [Tryz.underlying23, run_underlying, go_sem, List.forIn_cons]
  by_cases h0 : a0 = b0
  case neg => simp [h0]
  by_cases h1 : a1 = b1
  case neg => simp [h0, h1]
  by_cases h2 : a2 = b2
  case neg => simp [h0, h1, h2]
  simp [h0, h1, h2]
theorem eql_t23 {t : T} {m : Mem} {dst : Option Tmp} {rt ty' : TypeId} {pos : String} {after : Array Edge} {guard : Option (Nat × Bool)} {x y : Operand} {a0 a1 a2 b0 b1 b2 : Int} (hx : t.ev x = (.agg #[.int .i64 a0, .int .i64 a1, .int .i64 a2])) (hy : t.ev y = (.agg #[.int .i64 b0, .int .i64 b1, .int .i64 b2])) :
    OQ Tryz.prog ⟨dst, .binOp .eql 23 x y ty', rt, pos, after, guard⟩ t m (.bool (decide ((a0, a1, a2) = (b0, b1, b2)))) := by
  refine OQ.closed (fun cs b => by simp) (fun z hz => ?_) (fun w => ?_) rfl
  · simp [Op.operands] at hz
    rcases hz with rfl | rfl
    · rw [hx]; rfl
    · rw [hy]; rfl
  · have e := eqr_t23 9998 w a0 a1 a2 b0 b1 b2
    have hgt : (Tryz.prog).eqGuardType (Tryz.prog).depth 23 = false := by kernel_rfl
    have hg : (eqGuard .eql 23 x y (t.ev x) (t.ev y)).run Tryz.prog w = .ok () w := by
      rw [hx, hy]
      simp [eqGuard, program, Sem.run, Sem.run_bind, hgt]
    rw [hx, hy] at hg
    simp only [execOp, hx, hy, Sem.run_bind, hg, Result.andThen_ok, binOp, Op.equal, Op.maxDepth]
    erw [e]
    simp [go_sem]
theorem nel_t23 {t : T} {m : Mem} {dst : Option Tmp} {rt ty' : TypeId} {pos : String} {after : Array Edge} {guard : Option (Nat × Bool)} {x y : Operand} {a0 a1 a2 b0 b1 b2 : Int} (hx : t.ev x = (.agg #[.int .i64 a0, .int .i64 a1, .int .i64 a2])) (hy : t.ev y = (.agg #[.int .i64 b0, .int .i64 b1, .int .i64 b2])) :
    OQ Tryz.prog ⟨dst, .binOp .neq 23 x y ty', rt, pos, after, guard⟩ t m (.bool (!(decide ((a0, a1, a2) = (b0, b1, b2))))) := by
  refine OQ.closed (fun cs b => by simp) (fun z hz => ?_) (fun w => ?_) rfl
  · simp [Op.operands] at hz
    rcases hz with rfl | rfl
    · rw [hx]; rfl
    · rw [hy]; rfl
  · have e := eqr_t23 9998 w a0 a1 a2 b0 b1 b2
    have hgt : (Tryz.prog).eqGuardType (Tryz.prog).depth 23 = false := by kernel_rfl
    have hg : (eqGuard .neq 23 x y (t.ev x) (t.ev y)).run Tryz.prog w = .ok () w := by
      rw [hx, hy]
      simp [eqGuard, program, Sem.run, Sem.run_bind, hgt]
    rw [hx, hy] at hg
    simp only [execOp, hx, hy, Sem.run_bind, hg, Result.andThen_ok, binOp, Op.equal, Op.maxDepth]
    erw [e]
    simp [go_sem]
theorem eqr_t25 (d : Nat) (w : World) (a0 a1 a2 a3 a4 b0 b1 b2 b3 b4 : Int) : (Op.equalIn (d + 3) 25 (.agg #[.int .i64 a0, .int .i64 a1, .int .i64 a2, .int .i64 a3, .int .i64 a4]) (.agg #[.int .i64 b0, .int .i64 b1, .int .i64 b2, .int .i64 b3, .int .i64 b4])).run Tryz.prog w = .ok (decide ((a0, a1, a2, a3, a4) = (b0, b1, b2, b3, b4))) w := by
  have z23 : (Go.sizeOf 23).run Tryz.prog w = .ok 3 w := by go_simp
  unfold Op.equalIn
  simp [Tryz.underlying25, run_underlying, go_sem, List.forIn_cons, eqr_t23, z23]
  by_cases h0 : a0 = b0
  case neg => simp [h0]
  by_cases h1 : a1 = b1
  case neg => simp [h0, h1]
  by_cases h2 : a2 = b2
  case neg => simp [h0, h1, h2]
  by_cases h3 : a3 = b3
  case neg => simp [h0, h1, h2, h3]
  by_cases h4 : a4 = b4
  case neg => simp [h0, h1, h2, h3, h4]
  simp [h0, h1, h2, h3, h4]
theorem eql_t25 {t : T} {m : Mem} {dst : Option Tmp} {rt ty' : TypeId} {pos : String} {after : Array Edge} {guard : Option (Nat × Bool)} {x y : Operand} {a0 a1 a2 a3 a4 b0 b1 b2 b3 b4 : Int} (hx : t.ev x = (.agg #[.int .i64 a0, .int .i64 a1, .int .i64 a2, .int .i64 a3, .int .i64 a4])) (hy : t.ev y = (.agg #[.int .i64 b0, .int .i64 b1, .int .i64 b2, .int .i64 b3, .int .i64 b4])) :
    OQ Tryz.prog ⟨dst, .binOp .eql 25 x y ty', rt, pos, after, guard⟩ t m (.bool (decide ((a0, a1, a2, a3, a4) = (b0, b1, b2, b3, b4)))) := by
  refine OQ.closed (fun cs b => by simp) (fun z hz => ?_) (fun w => ?_) rfl
  · simp [Op.operands] at hz
    rcases hz with rfl | rfl
    · rw [hx]; rfl
    · rw [hy]; rfl
  · have e := eqr_t25 9997 w a0 a1 a2 a3 a4 b0 b1 b2 b3 b4
    have hgt : (Tryz.prog).eqGuardType (Tryz.prog).depth 25 = false := by kernel_rfl
    have hg : (eqGuard .eql 25 x y (t.ev x) (t.ev y)).run Tryz.prog w = .ok () w := by
      rw [hx, hy]
      simp [eqGuard, program, Sem.run, Sem.run_bind, hgt]
    rw [hx, hy] at hg
    simp only [execOp, hx, hy, Sem.run_bind, hg, Result.andThen_ok, binOp, Op.equal, Op.maxDepth]
    erw [e]
    simp [go_sem]
theorem nel_t25 {t : T} {m : Mem} {dst : Option Tmp} {rt ty' : TypeId} {pos : String} {after : Array Edge} {guard : Option (Nat × Bool)} {x y : Operand} {a0 a1 a2 a3 a4 b0 b1 b2 b3 b4 : Int} (hx : t.ev x = (.agg #[.int .i64 a0, .int .i64 a1, .int .i64 a2, .int .i64 a3, .int .i64 a4])) (hy : t.ev y = (.agg #[.int .i64 b0, .int .i64 b1, .int .i64 b2, .int .i64 b3, .int .i64 b4])) :
    OQ Tryz.prog ⟨dst, .binOp .neq 25 x y ty', rt, pos, after, guard⟩ t m (.bool (!(decide ((a0, a1, a2, a3, a4) = (b0, b1, b2, b3, b4))))) := by
  refine OQ.closed (fun cs b => by simp) (fun z hz => ?_) (fun w => ?_) rfl
  · simp [Op.operands] at hz
    rcases hz with rfl | rfl
    · rw [hx]; rfl
    · rw [hy]; rfl
  · have e := eqr_t25 9997 w a0 a1 a2 a3 a4 b0 b1 b2 b3 b4
    have hgt : (Tryz.prog).eqGuardType (Tryz.prog).depth 25 = false := by kernel_rfl
    have hg : (eqGuard .neq 25 x y (t.ev x) (t.ev y)).run Tryz.prog w = .ok () w := by
      rw [hx, hy]
      simp [eqGuard, program, Sem.run, Sem.run_bind, hgt]
    rw [hx, hy] at hg
    simp only [execOp, hx, hy, Sem.run_bind, hg, Result.andThen_ok, binOp, Op.equal, Op.maxDepth]
    erw [e]
    simp [go_sem]
attribute [local irreducible] OQ OW AL AW AD AF SW
theorem PCallsW.any {N0 : Nat} {W0 : World} {P : Program} {f : FuncId} {args : List Value} {v : Value} (h : PCallsW N0 W0 P f args [] v) (hk : args.all flat = true) (hv : flat v = true) (m : Mem) : PCallsW N0 W0 P f args m v :=
  PCallsW.of_calls hk hv fun w hW => by
    refine (h (fun _ => none) args.toArray w hW (fun b pl hb => by cases hb) (.tuple (by simp) fun i hi hi' => ?_) (fun b blk hb => by simp [Mem.at] at hb)).mono ?_
    · simp only [List.getElem_toArray]
      exact .flat (List.all_eq_true.1 hk _ (List.getElem_mem _))
    · rintro e w' ⟨v', rfl, hr, hb⟩
      exact ⟨by rw [hr.of_flat hv], hb⟩
theorem rParseState_w (l : List UInt8) (hl : l.length ≤ 1000) : PCalls Tryz.prog 9 [.string (tx l)] [] (.tuple #[stV (prsS l).1, .int .i64 (prsS l).2]) := by
  have HS := fun m => cut_some l (by omega) m
  by_cases h5 : (cutAt 32 l).length = 5
  · have hsub := cut_sub 32 l
    match hc : cutAt 32 l, h5 with
    | [a, b, c, d, e], _ =>
      rw [hc] at HS hsub
      have HN : ∀ p ∈ [a, b, c, d, e], ∀ m, PCalls Tryz.prog 41 [.string (tx p), .int .i64 10] m (.tuple #[.int .i64 ((numR p).getD 0), .bool (numR p).isSome]) := fun p hp m => Number_q p (by have := hsub p hp; omega) m
      have hb : ∀ p, p ∈ [a, b, c, d, e] → (numR p).isSome = false → prsS l = (St0, 7) := fun p hp hx => prs_no (p := p) (by rw [hc]; exact hp) (by simpa using hx)
      have hg : ∀ p, (numR p).isSome = true → numR p = some ((numR p).getD 0) := fun p hx => by
        obtain ⟨v, hv⟩ := Option.isSome_iff_exists.1 hx
        rw [hv]
        rfl
      refine rPS_go HS (HN a (by simp)) (HN b (by simp)) (HN c (by simp)) (HN d (by simp)) (HN e (by simp)) ?_
      by_cases hany : (numR a).isSome = false ∨ (numR b).isSome = false ∨ (numR c).isSome = false ∨ (numR d).isSome = false ∨ (numR e).isSome = false
      · refine .inl ⟨hany, ?_⟩
        have : prsS l = (St0, 7) := by
          rcases hany with h | h | h | h | h
          · exact hb a (by simp) h
          · exact hb b (by simp) h
          · exact hb c (by simp) h
          · exact hb d (by simp) h
          · exact hb e (by simp) h
        rw [this]
      · simp only [not_or, Bool.not_eq_false] at hany
        obtain ⟨g0, g1, g2, g3, g4⟩ := hany
        refine .inr ⟨⟨g0, g1, g2, g3, g4⟩, ?_⟩
        rw [prs_5 hc (hg a g0) (hg b g1) (hg c g2) (hg d g3) (hg e g4)]
        split
        · rename_i hz
          exact .inl ⟨hz, rfl⟩
        · rename_i hz
          exact .inr ⟨hz, rfl⟩
  · rw [prs_len h5]
    exact rPS_len HS (by simpa using h5)
/-- From the small memory to the machine's. -/
theorem PCallsW.calls {N0 : Nat} {W0 w : World} {P : Program} {f : FuncId} {args : List Value} {v : Value} (h : PCallsW N0 W0 P f args [] v) (hk : args.all flat = true) (hv : flat v = true) (hW : GW N0 W0 w) : Calls P f args.toArray w fun e w' => e = .returned v ∧ Below w.heap.size w w' := by
  refine (h (fun _ => none) args.toArray w hW (fun b pl hb => by cases hb) (.tuple (by simp) fun i hi hi' => ?_) (fun b blk hb => by simp [Mem.at] at hb)).mono ?_
  · simp only [List.getElem_toArray]
    exact .flat (List.all_eq_true.1 hk _ (List.getElem_mem _))
  · rintro e w' ⟨v', rfl, hr, hb⟩
    exact ⟨by rw [hr.of_flat hv], hb⟩
theorem OS_go {N0 : Nat} {W0 : World} {s : St} {t TX : ByteArray} {s1 : St} {e1 e2 : Int} (hA : ∀ m, PCalls Tryz.prog 6 [] m (.bool true))
    (hF : ∀ m, PCallsW N0 W0 Tryz.prog 7 [stV s] m (.string TX)) (hP : t.size ≤ 100 → ∀ m, PCallsW N0 W0 Tryz.prog 8 [.string t] m (.tuple #[stV s1, .int .i64 e1]))
    (hQ : t.size ≤ 100 → ∀ m, PCalls Tryz.prog 9 [.string t] m (.tuple #[stV s1, .int .i64 e1])) (hR : ∀ m, PCalls Tryz.prog 10 [stV s] m (.string TX))
    (hC : ∀ m, PCalls Tryz.prog 11 [stV s] m (.int .i64 e2)) (hP2 : e2 = 0 → ∀ m, PCallsW N0 W0 Tryz.prog 8 [.string TX] m (.tuple #[stV s, .int .i64 0])) :
    PCallsW N0 W0 Tryz.prog 3 [stV s, .string t] [] (.bool true) := by
  obtain ⟨a, b, c, d, e⟩ := s
  obtain ⟨a1, b1, c1, d1, f1⟩ := s1
  refine PCallsW.enterJ (t := [stV ⟨a, b, c, d, e⟩, .string t, undef, undef, undef, undef, undef, undef, undef, undef, undef, undef, undef, undef, undef, undef, undef, undef, undef, undef, undef, undef, undef, undef, undef, undef, undef, undef, undef, undef, undef, undef, undef, undef, undef, undef, undef, undef, undef, undef, undef, undef, undef, undef, undef, undef, undef, undef, undef, undef, undef, undef, undef, undef, undef, undef, undef, undef]) Tryz.func3 rfl (ro_nil) rfl fun E hE hG => ?_
  repeat' (first
    | with_reducible refine Then.n ?_
    | with_reducible refine Then.r ?_
    | with_reducible refine Then.x ?_
    | with_reducible refine InB.n ?_
    | with_reducible refine InB.r ?_
    | with_reducible refine InB.hit ?_
    | with_reducible refine InB.miss (by decide) ?_
    | ((with_reducible refine AL.on ?_); first
      | (refine AL.gd rfl ?_; first | (refine AL.gskip rfl rfl ?_; (conv => (arg 5; try tactic => exact nrm))) | (refine AL.gs1 rfl rfl (fun hc => ?_) (fun hc => ?_) <;> (try simp only [decide_eq_true_eq, decide_eq_false_iff_not, Bool.not_true, Bool.not_false, Bool.not_eq_true', Bool.not_eq_false', Int.not_lt, Int.not_le, Classical.not_not, ne_eq] at hc) <;> first | (exfalso; first | contradiction | (first | omega | (simp at hc; done)); done) | (conv => (arg 5; try tactic => exact nrm))) | (refine AL.gs0 rfl rfl (fun hc => ?_) (fun hc => ?_) <;> (try simp only [decide_eq_true_eq, decide_eq_false_iff_not, Bool.not_true, Bool.not_false, Bool.not_eq_true', Bool.not_eq_false', Int.not_lt, Int.not_le, Classical.not_not, ne_eq] at hc) <;> first | (exfalso; first | contradiction | (first | omega | (simp at hc; done)); done) | (conv => (arg 5; try tactic => exact nrm))))
      | ((first | ((with_reducible refine AL.k_move ?_); first | (refine AL.q rfl (OQ.move (by conv => lhs; whnf)) ?_)) | ((with_reducible refine AL.k_assign ?_); first | (refine AL.q rfl (OQ.assign (by conv => lhs; whnf)) ?_)) | ((with_reducible refine AL.k_call ?_); first | refine AL.q rfl (OQ.lenStr rfl Tryz.underlying9) ?_) | ((with_reducible refine AL.k_binOp ?_); first | refine AL.q rfl (OQ.gtr rfl rfl) ?_ | refine AL.q rfl (OQ.strne rfl rfl) ?_ | refine AL.q rfl (OQ.neq rfl rfl) ?_ | refine AL.q rfl (nel_t25 rfl rfl) ?_ | refine AL.q rfl (OQ.eql rfl rfl) ?_ | refine AL.q rfl (eql_t25 rfl rfl) ?_) | ((with_reducible refine AL.k_load ?_); first | refine AL.q rfl (OQ.loadN (ty := 25) (n := 5) rfl (by kernel_rfl) (by kernel_rfl) rfl) ?_) | ((with_reducible refine AL.k_extract ?_); first | refine AL.q rfl (OQ.extract rfl rfl) ?_) | ((with_reducible refine AL.k_pick ?_); first | (refine AL.q rfl (OQ.pickT rfl (by with_reducible rfl) (by conv => lhs; whnf)) ?_) | (refine AL.q rfl (OQ.pickF rfl (by with_reducible rfl) (by conv => lhs; whnf)) ?_)) | ((with_reducible refine AL.k_unOp ?_); first | refine AL.q rfl (OQ.not rfl) ?_)); (conv => (arg 5; try tactic => exact nrm)))
      | ((first | first | refine AL.pcall (g := 6) rfl (by kernel_rfl) rfl ((by exact hA _)) ?_ | refine AL.pcall (g := 9) rfl (by kernel_rfl) rfl ((by exact hQ (by omega) _)) ?_ | refine AL.pcall (g := 10) rfl (by kernel_rfl) rfl ((by exact hR _)) ?_ | refine AL.pcall (g := 11) rfl (by kernel_rfl) rfl ((by exact hC _)) ?_); (conv => (arg 5; try tactic => exact nrm)))
      | ((first | ((with_reducible refine AL.k_call ?_); first | refine AL.acallW hG (g := 7) rfl (by kernel_rfl) rfl ((by exact (hF _).acalls)) ?_ | refine AL.acallW hG (g := 8) rfl (by kernel_rfl) rfl ((by first | exact (hP (by omega) _).acalls | exact (hP2 (by omega) _).acalls)) ?_) | ((with_reducible refine AL.k_alloc ?_); first | refine AL.w rfl (OW.alloc (ty := 25) (z := [.int .i64 0, .int .i64 0, .int .i64 0, .int .i64 0, .int .i64 0]) (by kernel_rfl) rfl) ?_) | ((with_reducible refine AL.k_store ?_); first | (refine AL.w rfl (OW.store (ty := 25) (n := 5) rfl (by conv => lhs; whnf) rfl rfl (by kernel_rfl) rfl rfl (by decide) rfl (Nat.le_of_ble_eq_true rfl) (by intro r h; cases h)) ?_)) | ((with_reducible refine AL.k_box ?_); first | (refine AL.w rfl (OW.box (by conv => lhs; whnf) (by intro r h; cases h)) ?_))); (conv => (arg 5; try tactic => exact nrm)); (conv => (arg 6; try tactic => exact nrm)))
      | (refine AL.bs rfl (fun hc => ?_) (fun hc => ?_) <;> (fail_if_success (with_reducible exact lit_no hc)) <;> (try simp only [decide_eq_true_eq, decide_eq_false_iff_not, Bool.not_true, Bool.not_false, Bool.not_eq_true', Bool.not_eq_false', Int.not_lt, Int.not_le, Classical.not_not, ne_eq] at hc) <;> first | (exfalso; first | contradiction | (first | omega | (simp at hc; done)); done) | (conv => (arg 5; try tactic => exact nrm)))
      | refine AL.nil ?_)
    | ((with_reducible refine AW.on ?_); first
      | refine AW.seq ?_
      | refine AW.skip ?_
      | refine AW.exit ?_
      | refine AW.ret ?_
      | refine AW.block ?_
      | refine AW.region ?_
      | (refine AW.conds rfl (fun hc => ?_) (fun hc => ?_) <;> (try simp only [decide_eq_true_eq, decide_eq_false_iff_not, Bool.not_true, Bool.not_false, Bool.not_eq_true', Bool.not_eq_false', Int.not_lt, Int.not_le, Classical.not_not, ne_eq] at hc) <;> first | (exfalso; first | contradiction | (first | omega | (simp at hc; done)); done) | skip))
    | ((with_reducible refine FinJ.on ?_); ((first | refine FinJ.ret (.tmp (by conv => lhs; whnf) .nil) ?_ | refine FinJ.end (.tmp (by conv => lhs; whnf) .nil) ?_); (refine (fun hh => hh ▸ jle_flat rfl : ∀ {x : Bool}, x = true → jle (.bool true) (pack [.bool x])) ?_); first | rfl | exact decide_eq_true rfl | exact decide_eq_true trivial)))
end Go.Proofs.YthhhkjbhhjcjoaaGreatDoor
end
end

section
section
namespace Go.Proofs.YthhhkjbhhjcjoaaGreatDoor
open Go.ChangeShapes Go.WideShapes Go.ChangeAt Go Go.RowKit Go.Ob Go.Ab Go.Lib Go.Tx
set_option maxRecDepth 100000
set_option maxHeartbeats 4000000
/-- The variables that the statement lists. -/
abbrev lst : List (String × DataW Unit) := Rows.orbitStatesRow.laid
theorem starE : "*" ++ "errors.errorString" = "*errors.errorString" := by decide
theorem row_err (u : TypeId) (h : Tryz.prog.typeName? 3 u = some "*errors.errorString") : u = 226 :=
  typeName_ptr_named (nm := "errors.errorString") (by rw [starE]; kernel_rfl) (by kernel_rfl) (by decide) u (by rw [starE]; exact h)
section
variable {W : World}
theorem lb_of (hL : laidMet Tryz.prog lst W) (hsh : W.ShapedOpen Tryz.prog) : Lb W.heap.size W := by
  have h2 := hL.tail.tail
  have h4 := h2.tail.tail
  have h5 := h4.tail
  have h6 := hL.tail
  have ht : Lib.TabIs Tryz.prog W _ .u64 Lib.pow10Tab := Lib.tabIs_of_head (g := 0) (t := 208) (e := 190) (n := 20) (by kernel_rfl) (by kernel_rfl) (by kernel_rfl) (by kernel_rfl) (by kernel_rfl) (by kernel_rfl) h2
  obtain ⟨a1, s1, hv1, _⟩ := laid_sentinel (g := 3) (ti := 96) (tp := 226) (te := 228) (ts := 9) h4 (by kernel_rfl) (by kernel_rfl) Tryz.underlying96 row_err Tryz.underlying226 Tryz.underlying228 rfl rfl Tryz.underlying9 (by kernel_rfl) (by kernel_rfl)
  obtain ⟨a2, s2, hv2, _⟩ := laid_sentinel (g := 2) (ti := 96) (tp := 226) (te := 228) (ts := 9) h5 (by kernel_rfl) (by kernel_rfl) Tryz.underlying96 row_err Tryz.underlying226 Tryz.underlying228 rfl rfl Tryz.underlying9 (by kernel_rfl) (by kernel_rfl)
  have hm := cell_of_shapedOpen_int (g := 1) (t := 3) (zero := #[.int .i64 0]) (k := .i64) hsh (of_decide_eq_true (by kernel_rfl)) (by kernel_rfl) rfl (by kernel_rfl) (by kernel_rfl) Tryz.underlying3
  refine ⟨?_, ?_, hm, ?_, ?_⟩
  · obtain ⟨_, ⟨g0, _, _, _, _, _, hg0, _, hv0, _⟩, _⟩ := h6
    obtain rfl := Option.some.inj ((show Tryz.prog.globalNamed _ = some 7 by kernel_rfl).symm.trans hg0)
    unfold World.var? at hv0
    rw [hg0] at hv0
    simp only [Option.bind_some] at hv0
    rcases Nat.lt_or_ge 7 W.heap.size with h | h
    · exact h
    · rw [Array.getElem?_eq_none h] at hv0
      cases hv0
  · unfold Lib.TabIs World.var? at ht
    rw [show Tryz.prog.globalNamed _ = some 0 by kernel_rfl] at ht
    simp only [Option.bind_some] at ht
    split at ht
    · rename_i cs ty fr he
      cases ht
      exact ⟨ty, fr, he⟩
    · cases ht
  · have := World.var?_cell (by kernel_rfl : Tryz.prog.globalNamed _ = some 2) hv2 0
    exact ⟨_, _, by simpa using this⟩
  · have := World.var?_cell (by kernel_rfl : Tryz.prog.globalNamed _ = some 3) hv1 0
    exact ⟨_, _, by simpa using this⟩
end
theorem open_str {H : Type} {enc : TypeId × Value → H} {w : World} {base : Nat} {spare : Nat → Bool} {held : Bool} {r : Reach} {b0 : Nat} {v : Value} {d : DataW H} {p : List MemPlace} (hv : Value.okWide Tryz.prog w r b0 9 v) (h : DataW.Trod enc Tryz.prog w base spare held 9 v d p) : ∃ s, v = .string s ∧ s.size ≤ maxLen := by
  obtain ⟨s, rfl⟩ := okWide_string Tryz.underlying9 hv
  obtain ⟨fuel, hf⟩ := h
  obtain ⟨s', e, _, hs⟩ := DataW.trod_string Tryz.underlying9 hf
  have e' : s = s' := by simpa [Value.cells] using e
  subst e'
  exact ⟨s, rfl, hs⟩
theorem okS5 {a b c d e : Int} (h0 : -9223372036854775808 ≤ a ∧ a ≤ 9223372036854775807) (h1 : -9223372036854775808 ≤ b ∧ b ≤ 9223372036854775807) (h2 : -9223372036854775808 ≤ c ∧ c ≤ 9223372036854775807) (h3 : -9223372036854775808 ≤ d ∧ d ≤ 9223372036854775807) (h4 : -9223372036854775808 ≤ e ∧ e ≤ 9223372036854775807) : okS ⟨a, b, c, d, e⟩ := fun n hn => by
  simp only [numsS, List.mem_cons, List.not_mem_nil, or_false] at hn
  rcases hn with rfl | rfl | rfl | rfl | rfl <;> assumption
theorem cells_U : Tryz.prog.cellsOf 25 = 5 := by kernel_rfl
theorem ints_U : intsT Tryz.prog 4 25 = true := by kernel_rfl
set_option maxRecDepth 100000 in
theorem open_U {H : Type} {enc : TypeId × Value → H} {w : World} {base : Nat} {spare : Nat → Bool} {held : Bool} {r : Reach} {b0 : Nat} {v : Value} {d : DataW H} {p : List MemPlace} (hv : Value.okWide Tryz.prog w r b0 25 v) (h : DataW.Trod enc Tryz.prog w base spare held 25 v d p) :
    ∃ x0 x1 x2 x3 x4 : Int, v = .agg #[.int .i64 x0, .int .i64 x1, .int .i64 x2, .int .i64 x3, .int .i64 x4] ∧ (-9223372036854775808 ≤ x0 ∧ x0 ≤ 9223372036854775807) ∧ (-9223372036854775808 ≤ x1 ∧ x1 ≤ 9223372036854775807) ∧ (-9223372036854775808 ≤ x2 ∧ x2 ≤ 9223372036854775807) ∧ (-9223372036854775808 ≤ x3 ∧ x3 ≤ 9223372036854775807) ∧ (-9223372036854775808 ≤ x4 ∧ x4 ≤ 9223372036854775807) := by
  obtain ⟨cs, rfl, hsz⟩ := okWide_struct Tryz.underlying25 hv
  obtain ⟨l⟩ := cs
  obtain ⟨fuel, hf⟩ := h
  have hi := ints_of 4 _ _ _ _ ints_U hf
  match l, hsz.trans cells_U, hi with
  | [c0, c1, c2, c3, c4], _, hi =>
    obtain ⟨x0, rfl, hx0⟩ := hi c0 (by simp [Value.cells])
    obtain ⟨x1, rfl, hx1⟩ := hi c1 (by simp [Value.cells])
    obtain ⟨x2, rfl, hx2⟩ := hi c2 (by simp [Value.cells])
    obtain ⟨x3, rfl, hx3⟩ := hi c3 (by simp [Value.cells])
    obtain ⟨x4, rfl, hx4⟩ := hi c4 (by simp [Value.cells])
    exact ⟨x0, x1, x2, x3, x4, rfl, wf_bd hx0, wf_bd hx1, wf_bd hx2, wf_bd hx3, wf_bd hx4⟩
theorem walk {W : World} (L : Lb W.heap.size W) (s : St) (hs : okS s) (t : ByteArray) : Calls Tryz.prog 3 #[stV s, .string t] W fun e w' => e = .returned (.bool true) ∧ Below W.heap.size W w' := by
  have Lw := lw_of L
  refine PCallsW.calls (args := [stV s, .string t]) ?_ rfl rfl (N0 := W.heap.size) (W0 := W) ⟨Nat.le_refl _, fun x hx => rfl⟩
  obtain ⟨l, rfl⟩ : ∃ l, t = tx l := ⟨t.data.toList, (tx_data t).symm⟩
  refine OS_go (e1 := (prsS l).2) (s1 := (prsS l).1) (e2 := stE s) (TX := tx (fmtS s)) (fun m => PCalls.of_calls rfl rfl fun w => awake_any w) (PCallsW.any (FormatState_w Lw s hs) rfl rfl) (fun h => PCallsW.any (ParseState_w Lw l (by have : (tx l).size = l.length := rfl; omega)) rfl rfl)
    (fun h m => PCalls.any (rParseState_w l (by have : (tx l).size = l.length := rfl; omega)) rfl rfl m) (rFormatState_q s hs) (rCheckState_p s) (fun h => ?_)
  have hp := ParseState_w Lw (fmtS s) (by have := fmt_len hs; omega)
  rw [prs_fmt h] at hp
  exact PCallsW.any hp rfl rfl
/-- A world in which the variables lie as the text lays them. -/
noncomputable def laidWorld (os : Os) : World :=
  let w0 := World.doorLaid Tryz.prog 200 os
  { w0 with heap := w0.heap.modify 4 fun
      | .cells _ t frozen => .cells (Go.Pinned.utf8FirstZ.map fun (z : Nat) => Value.int .u8 (Int.ofNat z)).toArray t frozen
      | o => o }
end Go.Proofs.YthhhkjbhhjcjoaaGreatDoor
namespace Go.Proofs.YthhhkjbhhjcjoaaGreatDoor.OrbitStates
open Go.ChangeShapes Go.WideShapes Go.ChangeAt Go Go.RowKit Go.Ob Go.Ab Go.Lib Go.Tx Go.Proofs.YthhhkjbhhjcjoaaGreatDoor
set_option maxRecDepth 100000
theorem laid_met (os : Os) (args : Array Value) : laidMet Tryz.prog lst ((laidWorld os).forCall (fun _ _ => 0) ⟨#[], args, []⟩).memory :=
  laidMet_of_run' 8 (by kernel_rfl) (by kernel_rfl)
set_option maxRecDepth 100000 in
theorem lifted (os : Os) (started : os.Started) (H : Type) (enc : TypeId × Value → H) :
    ReturnsInHanded {} Tryz.checked os 3 .any (fun w args => (Rows.orbitStatesSpec.pre enc Tryz.prog Tryz.f3 Rows.orbitStatesRow.domain false w args ∧ laidMet Tryz.prog Rows.orbitStatesRow.laid w) ∧ sizedMet enc Tryz.prog Tryz.f3 (OpenSpec.ofChange Rows.orbitStatesSpec) false w args)
      (Rows.orbitStatesSpec.post enc Tryz.prog Tryz.f3 false true false false) := by
  refine ri_laid (C := Tryz.checked) (X := fun w _ => laidMet Tryz.prog Rows.orbitStatesRow.laid w) (fun _ _ _ hh h => h.of_heap hh) own started (by kernel_rfl) Tryz.func3
    (ChangeSpec.witness_shaped (enc := enc) (C := Tryz.checked) (os := os) (X := fun w _ => laidMet Tryz.prog Rows.orbitStatesRow.laid w) false (laidWorld os) #[.agg #[.int .i64 0, .int .i64 0, .int .i64 0, .int .i64 0, .int .i64 0], .string ⟨#[]⟩] 8 rfl (World.shaped_of_RefB (by kernel_rfl) (by kernel_rfl)) (by kernel_rfl) (by kernel_rfl) (by kernel_rfl) (laid_met os _)) ?_
  intro W base args ds gs before hval0 hW hcnd hL hsh
  have hval : ∀ (j : Nat) t v, Tryz.f3.params[j]? = some t → args[j]? = some v → Value.okWide Tryz.prog W .any base t v := hval0
  have hW' := hW
  obtain ⟨p, q, hA0, hV, rfl, hfz, hnd⟩ := hW
  have hA : DataW.TrodAll enc Tryz.prog W 0 (fun _ => true) true Tryz.f3.params.toList args.toList ds p := hA0
  rw [Tryz.params3] at hA hval
  obtain ⟨v0, vs0, d0, ds0, p0, q0, hargs, rfl, rfl, h0, r0⟩ := trodAll_cons hA
  obtain ⟨v1, vs1, d1, ds1, p1, q1, rfl, rfl, rfl, h1, r1⟩ := trodAll_cons r0
  obtain ⟨rfl, rfl, rfl⟩ := trodAll_nil r1
  obtain rfl : args = #[v0, v1] := by cases args; simp_all
  obtain ⟨rfl, rfl⟩ := trodVars_none hV
  clear hA0 hval0
  have hlt := hW'.lt
  have g0 := h0
  have g1 := h1
  obtain ⟨x0_0, x1_0, x2_0, x3_0, x4_0, rfl, hx0_0, hx1_0, hx2_0, hx3_0, hx4_0⟩ := open_U (hval 0 25 v0 rfl rfl) h0
  obtain ⟨tt1, rfl, htt1⟩ := open_str (hval 1 9 v1 rfl rfl) h1
  simp only [List.append_nil] at hW' hlt ⊢
  refine (walk (lb_of hL hsh) ⟨x0_0, x1_0, x2_0, x3_0, x4_0⟩ (okS5 hx0_0 hx1_0 hx2_0 hx3_0 hx4_0) tt1).mono fun e W' ⟨he, hb⟩ => ?_
  subst he
  have stay : ∀ (t : TypeId) v d ps (sp : Nat → Bool), Tryz.prog.readableRec t = true → t < Tryz.prog.types.size → DataW.Trod enc Tryz.prog W 0 (fun _ => true) true t v d ps → (∀ x ∈ ps, x.block < W.heap.size) → (∀ x ∈ ps, sp x.block = true) → DataW.Trod enc Tryz.prog W' 0 sp true t v d ps :=
    fun t v d ps sp hr ht h hx hs => Go.WideElems.Trod_stays laid hr ht h (fun x hxp => hb.same (hx x hxp)) hs
  exact ⟨_, rfl, post_below (pa := p0 ++ (p1 ++ [])) (pv := []) hW' (fun _ _ _ => trodAll_mk1 (shut_bool Tryz.underlying4 true)) (fun sp hs => (trodAll_cons_mk (stay 25 _ _ _ sp (by kernel_rfl) (of_decide_eq_true (by kernel_rfl)) g0 (fun x hx => hlt x (by simp [hx])) (fun x hx => hs x (by simp [hx]))) (trodAll_cons_mk (stay 9 _ _ _ sp (by kernel_rfl) (of_decide_eq_true (by kernel_rfl)) g1 (fun x hx => hlt x (by simp [hx])) (fun x hx => hs x (by simp [hx]))) (trodAll_mk0)))) (fun _ _ => rfl) (by simp)
    hb (ok_one (by kernel_rfl) rfl (okWide_bool_mk Tryz.underlying4 true))⟩

theorem over : Rows.orbitStatesRow.holds Tryz.pinned (OpenSpec.ofChange Rows.orbitStatesSpec) :=
  OpenClaim.holds_of_wide 3 Tryz.f3 rfl rfl rfl rfl rfl rfl rfl ⟨rfl, rfl, rfl, rfl, rfl⟩ rfl rfl rfl rfl rfl (by kernel_rfl) Tryz.func3 (by kernel_rfl)
    (of_decide_eq_true (by kernel_rfl)) (by unfold Func.isWrapper; first | (rw [if_pos (by decide +kernel)]; kernel_rfl) | (rw [if_neg (by decide +kernel)]; exact ⟨rfl, rfl⟩))
    (fun os started H enc _ => lifted os started H enc)

theorem plain_par (j : Nat) (t : TypeId) (ht : Tryz.f3.params[j]? = some t) : Tryz.prog.wantsStandIn t = false := by
  rw [Tryz.params3] at ht
  match j, ht with
  | 0, ht => cases ht; exact (show Tryz.prog.wantsStandIn _ = false by kernel_rfl)
  | 1, ht => cases ht; exact (show Tryz.prog.wantsStandIn _ = false by kernel_rfl)
  | j + 2, ht => simp at ht
/-- The statement: the tied card. -/
theorem proved : Rows.OrbitStatesCardSaid :=
  Claim7.holds_tied_plain_at .later [] [.data, .data, .data, .data, .sentinel, .sentinel, .pinned] true (true, "aa15a959c40d984798b0c7b1f12d25e5d1da24be744a3f885328d822e7a838a4") true
    over (fun _ h => by cases h) (by kernel_rfl) (fun _ h => by cases h) orbitStates_row_tie rfl ⟨rfl, rfl⟩ (by kernel_rfl) rfl
    (fun f fn hf hfn => by
      obtain rfl : f = 3 := Option.some.inj ((show Tryz.prog.funcNamed "swath/swathlaw02.OrbitStates" = some 3 by kernel_rfl).symm.trans hf) |>.symm
      obtain rfl : fn = Tryz.f3 := (Option.some.inj (Tryz.func3.symm.trans hfn)).symm
      exact ⟨by kernel_rfl, plain_par⟩)
    (by kernel_rfl)
#print axioms proved
end Go.Proofs.YthhhkjbhhjcjoaaGreatDoor.OrbitStates
end
end
