/- Between vectors: contracts. -/
import Derived.Test.YthhhkjbhhjcjoaaGreatDoor02w
import Derived.Test.YthhhkjbhhjcjoaaGreatDoor02Gl
import Derived.Test.YthhhkjbhhjcjoaaGreatDoorAbJ
import Derived.Test.YthhhkjbhhjcjoaaGreatDoorAbD
import Derived.Test.YthhhkjbhhjcjoaaGreatDoorLs
set_option linter.unusedSimpArgs false
set_option linter.unusedVariables false
section
namespace Go.Proofs.YthhhkjbhhjcjoaaGreatDoor
open Go.RowKit Go.Ob

end Go.Proofs.YthhhkjbhhjcjoaaGreatDoor
end

section
namespace Go.Proofs.YthhhkjbhhjcjoaaGreatDoor
open Go Go.RowKit Go.Ob Go.Ab
set_option maxRecDepth 100000
set_option maxHeartbeats 4000000
attribute [local irreducible] OQ OW AL AW AD AF SW
theorem eqr_t60 (d : Nat) (w : World) (a0 a1 b0 b1 : Int) : (Op.equalIn (d + 2) 60 (.agg #[.int .i64 a0, .int .i64 a1]) (.agg #[.int .i64 b0, .int .i64 b1])).run Tryz.prog w = .ok (decide ((a0, a1) = (b0, b1))) w := by
  unfold Op.equalIn
  simp [Tryz.underlying60, run_underlying, go_sem, List.forIn_cons]
  by_cases h0 : a0 = b0
  case neg => simp [h0]
  by_cases h1 : a1 = b1
  case neg => simp [h0, h1]
  simp [h0, h1]
theorem nel_t60 {t : T} {m : Mem} {dst : Option Tmp} {rt ty' : TypeId} {pos : String} {after : Array Edge} {guard : Option (Nat × Bool)} {x y : Operand} {a0 a1 b0 b1 : Int} (hx : t.ev x = (.agg #[.int .i64 a0, .int .i64 a1])) (hy : t.ev y = (.agg #[.int .i64 b0, .int .i64 b1])) :
    OQ Tryz.prog ⟨dst, .binOp .neq 60 x y ty', rt, pos, after, guard⟩ t m (.bool (!(decide ((a0, a1) = (b0, b1))))) := by
  refine OQ.closed (fun cs b => by simp) (fun z hz => ?_) (fun w => ?_) rfl
  · simp [Op.operands] at hz
    rcases hz with rfl | rfl
    · rw [hx]; rfl
    · rw [hy]; rfl
  · have e := eqr_t60 9998 w a0 a1 b0 b1
    have hgt : (Tryz.prog).eqGuardType (Tryz.prog).depth 60 = false := by kernel_rfl
    have hg : (eqGuard .neq 60 x y (t.ev x) (t.ev y)).run Tryz.prog w = .ok () w := by
      rw [hx, hy]
      simp [eqGuard, program, Sem.run, Sem.run_bind, hgt]
    rw [hx, hy] at hg
    simp only [execOp, hx, hy, Sem.run_bind, hg, Result.andThen_ok, binOp, Op.equal, Op.maxDepth]
    erw [e]
    simp [go_sem]
theorem eqr_t64 (d : Nat) (w : World) (a0 a1 a2 a3 a4 a5 b0 b1 b2 b3 b4 b5 : Int) : (Op.equalIn (d + 3) 64 (.agg #[.int .i64 a0, .int .i64 a1, .int .i64 a2, .int .i64 a3, .int .i64 a4, .int .i64 a5]) (.agg #[.int .i64 b0, .int .i64 b1, .int .i64 b2, .int .i64 b3, .int .i64 b4, .int .i64 b5])).run Tryz.prog w = .ok (decide ((a0, a1, a2, a3, a4, a5) = (b0, b1, b2, b3, b4, b5))) w := by
  have z60 : (Go.sizeOf 60).run Tryz.prog w = .ok 2 w := by go_simp
  unfold Op.equalIn
  simp [Tryz.underlying64, run_underlying, go_sem, List.range', List.forIn_cons, eqr_t60, z60]
  by_cases h0 : a0 = b0
  case neg => simp [h0]
  by_cases h1 : a1 = b1
  case neg => simp [h0, h1]
  by_cases h2 : a2 = b2
  case neg => simp [h0, h1, h2]
  by_cases h3 : a3 = b3
  case neg => simp [h0, h1, h2, h3]
  by_cases h4 : a4 = b4
  case neg => simp [h0, h1, h2, h3, h4]
  by_cases h5 : a5 = b5
  case neg => simp [h0, h1, h2, h3, h4, h5]
  simp [h0, h1, h2, h3, h4, h5]
theorem eql_t64 {t : T} {m : Mem} {dst : Option Tmp} {rt ty' : TypeId} {pos : String} {after : Array Edge} {guard : Option (Nat × Bool)} {x y : Operand} {a0 a1 a2 a3 a4 a5 b0 b1 b2 b3 b4 b5 : Int} (hx : t.ev x = (.agg #[.int .i64 a0, .int .i64 a1, .int .i64 a2, .int .i64 a3, .int .i64 a4, .int .i64 a5])) (hy : t.ev y = (.agg #[.int .i64 b0, .int .i64 b1, .int .i64 b2, .int .i64 b3, .int .i64 b4, .int .i64 b5])) :
    OQ Tryz.prog ⟨dst, .binOp .eql 64 x y ty', rt, pos, after, guard⟩ t m (.bool (decide ((a0, a1, a2, a3, a4, a5) = (b0, b1, b2, b3, b4, b5)))) := by
  refine OQ.closed (fun cs b => by simp) (fun z hz => ?_) (fun w => ?_) rfl
  · simp [Op.operands] at hz
    rcases hz with rfl | rfl
    · rw [hx]; rfl
    · rw [hy]; rfl
  · have e := eqr_t64 9997 w a0 a1 a2 a3 a4 a5 b0 b1 b2 b3 b4 b5
    have hgt : (Tryz.prog).eqGuardType (Tryz.prog).depth 64 = false := by kernel_rfl
    have hg : (eqGuard .eql 64 x y (t.ev x) (t.ev y)).run Tryz.prog w = .ok () w := by
      rw [hx, hy]
      simp [eqGuard, program, Sem.run, Sem.run_bind, hgt]
    rw [hx, hy] at hg
    simp only [execOp, hx, hy, Sem.run_bind, hg, Result.andThen_ok, binOp, Op.equal, Op.maxDepth]
    erw [e]
    simp [go_sem]
theorem PCalls.capO {f : FuncId} {nm : ByteArray} {bd : Int} {b n c : Nat} {us : List Value} {m : Mem} {v : Value} (h : PCalls Tryz.prog f (obW nm bd (.slice (some ⟨b, 0, none⟩) n INF) :: us) m v) : PCalls Tryz.prog f (obW nm bd (.slice (some ⟨b, 0, none⟩) n c) :: us) m v := by
  intro ρ args' w hdom hargs hm
  refine h ρ args' w hdom ?_ hm
  obtain ⟨xs, e, hl, hg⟩ := hargs.tuple_inv
  cases e
  refine .tuple (by simpa using hl) fun i hi hi' => ?_
  match i with
  | 0 =>
    obtain ⟨u, e0, r0⟩ := hg 0 _ rfl
    rw [Array.getElem?_eq_getElem hi'] at e0
    cases e0
    exact obW_inf r0
  | i + 1 =>
    have hi0 : i < us.length := by simpa using hi
    obtain ⟨u, e0, r0⟩ := hg (i + 1) us[i] (by simp [hi0])
    rw [Array.getElem?_eq_getElem hi'] at e0
    cases e0
    simpa using r0
section
variable {m : Mem} {v : Value} {l : List St} {nm : ByteArray} {bd : Int}
theorem atE_of {t : Int} (he : (orbE nm.data.toList bd l).2 = 0) (h0 : frstT l ≤ t) (h1 : t ≤ lastT l) : atE nm.data.toList bd l t = 0 := by
  unfold atE
  rw [if_neg (by simp [he]), if_pos ⟨h0, h1⟩]
theorem BoxAtX_q (hS : SlB m v l) (ho : Ors nm l) (he : (orbE nm.data.toList bd l).2 = 0) (t : Int) (h0 : frstT l ≤ t) (h1 : t ≤ lastT l) : PCalls Tryz.prog 29 [obW nm bd v, .int .i64 t] m (.tuple #[bxV (bx bd l t), .int .i64 0]) :=
  of_sl hS ho rfl rfl fun w a cap hO => by
    have := BoxAt_any nm bd t a cap l w hO
    unfold bxOr at this
    rw [atE_of he h0 h1] at this
    exact this
end
theorem Pass_c : ACalls Tryz.prog 30 [] [] (obW pName 2 (.slice (some ⟨0, 0, none⟩) 2 2)) [some ⟨flatS passL, true, 5⟩] := by
  refine ACalls.enter (t := [undef, undef, undef, undef, undef, undef, undef]) Tryz.func30 rfl rfl fun E hE => ?_
  repeat' (first
    | with_reducible refine Then.n ?_
    | with_reducible refine Then.r ?_
    | with_reducible refine Then.x ?_
    | with_reducible refine InB.n ?_
    | with_reducible refine InB.r ?_
    | with_reducible refine InB.hit ?_
    | with_reducible refine InB.miss (by decide) ?_
    | ((with_reducible refine AL.on ?_); first
      | ((first | first | refine AL.q rfl (OQ.buildS (ty := 23) (zs := [.int .i64 0, .int .i64 0, .int .i64 0]) (pls := [(0, 1), (1, 1), (2, 1)]) (by kernel_rfl) rfl (by kernel_rfl) rfl rfl rfl) ?_ | refine AL.q rfl (OQ.buildS (ty := 25) (zs := [.int .i64 0, .int .i64 0, .int .i64 0, .int .i64 0, .int .i64 0]) (pls := [(0, 1), (1, 3), (4, 1)]) (by kernel_rfl) rfl (by kernel_rfl) rfl rfl rfl) ?_ | refine AL.q rfl (OQ.buildS (ty := 37) (zs := [.string ⟨#[]⟩, .int .i64 0, .slice none 0 0]) (pls := [(0, 1), (1, 1), (2, 1)]) (by kernel_rfl) rfl (by kernel_rfl) rfl rfl rfl) ?_); (conv => (arg 5; try tactic => exact nrm)))
      | ((first | ((with_reducible refine AL.k_alloc ?_); first | refine AL.w rfl (OW.alloc (ty := 37) (z := [.string ⟨#[]⟩, .int .i64 0, .slice none 0 0]) (by kernel_rfl) rfl) ?_) | ((with_reducible refine AL.k_buildSlice ?_); first | refine AL.w rfl (OW.buildSl (ty := 35) (zs := [.int .i64 0, .int .i64 0, .int .i64 0, .int .i64 0, .int .i64 0]) (n := 5) (g := true) (by kernel_rfl) (by kernel_rfl) rfl rfl rfl (by decide) (by decide) rfl rfl) ?_) | ((with_reducible refine AL.k_store ?_); first | (refine AL.w rfl (OW.store (ty := 37) (n := 3) rfl (by conv => lhs; whnf) rfl rfl (by kernel_rfl) rfl rfl (by decide) rfl (Nat.le_of_ble_eq_true rfl) (by intro r h; cases h)) ?_))); (conv => (arg 5; try tactic => exact nrm)); (conv => (arg 6; try tactic => exact nrm)))
      | refine AL.nil ?_)
    | ((with_reducible refine AW.on ?_); first
      | refine AW.seq ?_
      | refine AW.skip ?_
      | refine AW.exit ?_
      | refine AW.ret ?_
      | refine AW.block ?_
      | refine AW.region ?_
      | (refine AW.conds rfl (fun hc => ?_) (fun hc => ?_) <;> (try simp only [decide_eq_true_eq, decide_eq_false_iff_not, Bool.not_true, Bool.not_false, Bool.not_eq_true', Bool.not_eq_false', Int.not_lt, Int.not_le, Classical.not_not, ne_eq] at hc) <;> first | (exfalso; first | contradiction | (omega); done) | skip))
    | ((with_reducible refine FinA.on ?_); (refine FinA.keep 0 [1] (.inl rfl) (.cellN (n := 3) (by conv => lhs; whnf) (by kernel_rfl) (by kernel_rfl) rfl .nil) ?_ rfl (Nat.le_of_eq hE) rfl rfl ⟨⟨_, rfl, rfl, rfl, .inl ⟨rfl, rfl⟩⟩, trivial⟩; rfl)))
theorem flown_0 : PCalls Tryz.prog 20 [] [] (.bool true) := by
  have hb := boxAt_val
  have hr : (orbE pName.data.toList 2 passL).2 = 0 := by decide +kernel
  have ho : Ors pName passL := Ors.of_right (by decide) (orbE_right hr).1
  have hx : bx 2 passL 3 = ⟨11, 19, 2, 10, 96, 104⟩ := by
    have := hb.1
    unfold bxOr at this
    rwa [if_pos hb.2] at this
  have HB := fun (m : Mem) (b : Nat) (k : Blk) (h : m.at b = some k) (hc : k.cells = flatS passL) => BoxAtX_q (m := m) (.blk b k rfl h hc) ho hr 3 (by decide) (by decide)
  rw [hx] at HB
  have HB' := fun (m : Mem) (b : Nat) (k : Blk) (h : m.at b = some k) (hc : k.cells = flatS passL) => PCalls.capO (c := 2) (HB m b k h hc)
  refine PCalls.enter (t := [undef, undef, undef, undef, undef, undef, undef, undef, undef, undef, undef, undef, undef, undef, undef, undef, undef, undef]) Tryz.func20 rfl (ro_nil) rfl fun E => ?_
  repeat' (first
    | with_reducible refine Then.n ?_
    | with_reducible refine Then.r ?_
    | with_reducible refine Then.x ?_
    | with_reducible refine InB.n ?_
    | with_reducible refine InB.r ?_
    | with_reducible refine InB.hit ?_
    | with_reducible refine InB.miss (by decide) ?_
    | ((with_reducible refine AL.on ?_); first
      | (refine AL.gd rfl ?_; first | (refine AL.gskip rfl rfl ?_; (conv => (arg 5; try tactic => exact nrm))) | (refine AL.gs1 rfl rfl (fun hc => ?_) (fun hc => ?_) <;> (try simp only [decide_eq_true_eq, decide_eq_false_iff_not, Bool.not_true, Bool.not_false, Bool.not_eq_true', Bool.not_eq_false', Int.not_lt, Int.not_le, Classical.not_not, ne_eq] at hc) <;> first | (exfalso; first | contradiction | (omega); done) | (conv => (arg 5; try tactic => exact nrm))) | (refine AL.gs0 rfl rfl (fun hc => ?_) (fun hc => ?_) <;> (try simp only [decide_eq_true_eq, decide_eq_false_iff_not, Bool.not_true, Bool.not_false, Bool.not_eq_true', Bool.not_eq_false', Int.not_lt, Int.not_le, Classical.not_not, ne_eq] at hc) <;> first | (exfalso; first | contradiction | (omega); done) | (conv => (arg 5; try tactic => exact nrm))))
      | ((first | ((with_reducible refine AL.k_assign ?_); first | (refine AL.q rfl (OQ.assign (by conv => lhs; whnf)) ?_)) | ((with_reducible refine AL.k_move ?_); first | (refine AL.q rfl (OQ.move (by conv => lhs; whnf)) ?_)) | ((with_reducible refine AL.k_extract ?_); first | refine AL.q rfl (OQ.extract rfl rfl) ?_) | ((with_reducible refine AL.k_binOp ?_); first | refine AL.q rfl (OQ.eql rfl rfl) ?_ | refine AL.q rfl (eql_t64 rfl rfl) ?_) | ((with_reducible refine AL.k_load ?_); first | refine AL.q rfl (OQ.loadN (ty := 64) (n := 6) rfl (by kernel_rfl) (by kernel_rfl) rfl) ?_) | ((with_reducible refine AL.k_pick ?_); first | (refine AL.q rfl (OQ.pickT rfl (by with_reducible rfl) (by conv => lhs; whnf)) ?_) | (refine AL.q rfl (OQ.pickF rfl (by with_reducible rfl) (by conv => lhs; whnf)) ?_))); (conv => (arg 5; try tactic => exact nrm)))
      | ((first | ((with_reducible refine AL.k_build ?_); first | refine AL.q rfl (OQ.buildS (ty := 60) (zs := [.int .i64 0, .int .i64 0]) (pls := [(0, 1), (1, 1)]) (by kernel_rfl) rfl (by kernel_rfl) rfl rfl rfl) ?_ | refine AL.q rfl (OQ.buildA (ty := 64) (zs := [.int .i64 0, .int .i64 0, .int .i64 0, .int .i64 0, .int .i64 0, .int .i64 0]) (n := 2) (k := 3) (g := true) (by kernel_rfl) rfl (by kernel_rfl) rfl rfl rfl) ?_) | ((with_reducible refine AL.k_call ?_); first | refine AL.pcall (g := 29) rfl (by kernel_rfl) rfl (HB' _ 0 _ rfl rfl) ?_)); (conv => (arg 5; try tactic => exact nrm)))
      | ((first | ((with_reducible refine AL.k_call ?_); first | refine AL.acall (g := 30) rfl (by kernel_rfl) rfl (Pass_c) ?_) | ((with_reducible refine AL.k_alloc ?_); first | refine AL.w rfl (OW.alloc (ty := 64) (z := [.int .i64 0, .int .i64 0, .int .i64 0, .int .i64 0, .int .i64 0, .int .i64 0]) (by kernel_rfl) rfl) ?_) | ((with_reducible refine AL.k_store ?_); first | (refine AL.w rfl (OW.store (ty := 64) (n := 6) rfl (by conv => lhs; whnf) rfl rfl (by kernel_rfl) rfl rfl (by decide) rfl (Nat.le_of_ble_eq_true rfl) (by intro r h; cases h)) ?_))); (conv => (arg 5; try tactic => exact nrm)); (conv => (arg 6; try tactic => exact nrm)))
      | (refine AL.bs rfl (fun hc => ?_) (fun hc => ?_) <;> (fail_if_success (with_reducible exact lit_no hc)) <;> (try simp only [decide_eq_true_eq, decide_eq_false_iff_not, Bool.not_true, Bool.not_false, Bool.not_eq_true', Bool.not_eq_false', Int.not_lt, Int.not_le, Classical.not_not, ne_eq] at hc) <;> first | (exfalso; first | contradiction | (omega); done) | (conv => (arg 5; try tactic => exact nrm)))
      | refine AL.nil ?_)
    | ((with_reducible refine AW.on ?_); first
      | refine AW.seq ?_
      | refine AW.skip ?_
      | refine AW.exit ?_
      | refine AW.ret ?_
      | refine AW.block ?_
      | refine AW.region ?_
      | (refine AW.conds rfl (fun hc => ?_) (fun hc => ?_) <;> (try simp only [decide_eq_true_eq, decide_eq_false_iff_not, Bool.not_true, Bool.not_false, Bool.not_eq_true', Bool.not_eq_false', Int.not_lt, Int.not_le, Classical.not_not, ne_eq] at hc) <;> first | (exfalso; first | contradiction | (omega); done) | skip))
    | ((with_reducible refine FinP.on ?_); (first | refine FinP.ret (.tmp (by conv => lhs; whnf) .nil) ?_ rfl | refine FinP.end (.tmp (by conv => lhs; whnf) .nil) ?_ rfl); (try simp only [pack, List.drop, List.take]); all_goals (rfl)))
theorem flown_q (m : Mem) : PCalls Tryz.prog 20 [] m (.bool true) := PCalls.any flown_0 rfl rfl m
theorem First_q {m : Mem} {v : Value} {l : List St} {nm : ByteArray} {bd : Int} (hS : SlB m v l) (ho : Ors nm l) (hR : Right bd l) : PCalls Tryz.prog 26 [obW nm bd v] m (.int .i64 (frstT l)) :=
  of_sl hS ho rfl rfl fun w a cap hO => by
    obtain ⟨b, off, rfl, hbw, hmem⟩ := hO.mem hR
    exact First_any nm bd b off cap l w hmem hbw (by have := hR.n2; omega) (by have := hR.n40; omega)
theorem Last_q {m : Mem} {v : Value} {l : List St} {nm : ByteArray} {bd : Int} (hS : SlB m v l) (ho : Ors nm l) (hR : Right bd l) : PCalls Tryz.prog 27 [obW nm bd v] m (.int .i64 (lastT l)) :=
  of_sl hS ho rfl rfl fun w a cap hO => by
    obtain ⟨b, off, rfl, hbw, hmem⟩ := hO.mem hR
    exact Last_any nm bd b off cap l w hmem hbw (by have := hR.n2; omega) (by have := hR.n40; omega)
end Go.Proofs.YthhhkjbhhjcjoaaGreatDoor
end
