/- SeriesNormal: CheckSeries, NormalOf and RankOf return what the document specifies, for all series, or the errors. -/
import Derived.Test.YthgbincoppnpgaaDoor08H
import Derived.Test.YthgbincoppnpgaaDoor08y
import Derived.Test.YthgbincoppnpgaaDoor08r
import Derived.Test.YthgbincoppnpgaaDoor08kd
import Derived.Test.YthgbincoppnpgaaDoorTie
import Derived.Test.YthgbincoppnpgaaDoorCards
import Derived.LaidLaws
import Derived.Handed
import Derived.SevenTiedAt
import Derived.JoinedOf
set_option linter.unusedSimpArgs false
set_option linter.unusedVariables false
section
namespace Go.Proofs.YthgbincoppnpgaaDoor
open Go.ChangeShapes Go.WideShapes Go.ChangeAt Go Go.RowKit Go.Ab Go.Sr
set_option maxRecDepth 100000
set_option maxHeartbeats 4000000
def D8 (p0 p1 p2 : Prop) (L : List Int) : Prop := (p0 ∧ p1 ∧ p2 ∧ L = [0, 1, 2])
  ∨ (p0 ∧ p1 ∧ ¬ p2 ∧ L = [0, 1])
  ∨ (p0 ∧ ¬ p1 ∧ p2 ∧ L = [0, 2])
  ∨ (¬ p0 ∧ p1 ∧ p2 ∧ L = [1, 2])
  ∨ (p0 ∧ ¬ p1 ∧ ¬ p2 ∧ L = [0])
  ∨ (¬ p0 ∧ p1 ∧ ¬ p2 ∧ L = [1])
  ∨ (¬ p0 ∧ ¬ p1 ∧ p2 ∧ L = [2])
  ∨ (¬ p0 ∧ ¬ p1 ∧ ¬ p2 ∧ L = [])
theorem D8_ex (p0 p1 p2 : Prop) : ∃ L, D8 p0 p1 p2 L := by
  unfold D8
  by_cases h0 : p0 <;> by_cases h1 : p1 <;> by_cases h2 : p2 <;> simp [h0, h1, h2]
theorem D8_tr {p0 p1 p2 q0 q1 q2 : Prop} {L : List Int} (i0 : p0 ↔ q0) (i1 : p1 ↔ q1) (i2 : p2 ↔ q2) (h : D8 p0 p1 p2 L) : D8 q0 q1 q2 L := by
  cases propext i0
  cases propext i1
  cases propext i2
  exact h
theorem D8_len {p0 p1 p2 : Prop} {L : List Int} (h : D8 p0 p1 p2 L) : L.length ≤ 3 := by
  rcases h with ⟨_, _, _, rfl⟩ | ⟨_, _, _, rfl⟩ | ⟨_, _, _, rfl⟩ | ⟨_, _, _, rfl⟩ | ⟨_, _, _, rfl⟩ | ⟨_, _, _, rfl⟩ | ⟨_, _, _, rfl⟩ | ⟨_, _, _, rfl⟩ <;> decide
theorem inV_rn2 (σ : Nat → Nat) (b : Nat) (L : List Int) : rn2 σ (inV b L) = inV (σ b) L := by
  cases L with
  | nil => rw [inV_n, inV_n]; rfl
  | cons a L => rw [inV_c, inV_c]; rfl
theorem inV_ok2 {n b : Nat} (L : List Int) (h : b < n) : ok2 n (inV b L) = true := by
  cases L with
  | nil => rw [inV_n]; rfl
  | cons a L => rw [inV_c]; simp [ok2, ok1, h]
theorem inB_scal (L : List Int) (blk : Blk) (h : inB L = some blk) : blk.own = true ∧ blk.cells.all Ab.scal = true := by
  cases L with
  | nil => rw [inB_n] at h; cases h
  | cons a L => rw [inB_c] at h; cases h; exact ⟨rfl, flatI_scal _⟩
theorem lies2i {m : Mem} {b c z1 z2 : Nat} {o1 o2 : Bool} {cs1 cs2 : List Value} (h1 : m.at b = some ⟨cs1, o1, z1⟩) (h2 : m.at c = some ⟨cs2, o2, z2⟩) (s1 : cs1.all Ab.scal = true) (s2 : cs2.all Ab.scal = true) :
    Lies [some ⟨cs1, false, z1⟩, some ⟨cs2, false, z2⟩] m (fun i => if i = 0 then b else c) := fun x bk hx => by
  have := Mem.at_lt hx
  match x, this with
  | 0, _ =>
    cases hx
    exact ⟨rfl, ok1_of_scal s1, _, h1, rfl, fun j v hv => by rw [rn1_scal (List.all_eq_true.1 s1 v (List.mem_of_getElem? hv))]; exact hv⟩
  | 1, _ =>
    cases hx
    exact ⟨rfl, ok1_of_scal s2, _, h2, rfl, fun j v hv => by rw [rn1_scal (List.all_eq_true.1 s2 v (List.mem_of_getElem? hv))]; exact hv⟩
  | x + 2, h => exact absurd h (by simp)
section
attribute [local irreducible] OQ OW AL AW AD AF SW
theorem eqr_t27 (d : Nat) (w : World) (a0 a1 a2 a3 a4 a5 a6 a7 a8 b0 b1 b2 b3 b4 b5 b6 b7 b8 : Int) : (Op.equalIn (d + 2) 27 (.agg #[.int .i64 a0, .int .i64 a1, .int .i64 a2, .int .i64 a3, .int .i64 a4, .int .i64 a5, .int .i64 a6, .int .i64 a7, .int .i64 a8]) (.agg #[.int .i64 b0, .int .i64 b1, .int .i64 b2, .int .i64 b3, .int .i64 b4, .int .i64 b5, .int .i64 b6, .int .i64 b7, .int .i64 b8])).run Tryd.prog w = .ok (decide (((a0, a1, a2), (a3, a4, a5), (a6, a7, a8)) = ((b0, b1, b2), (b3, b4, b5), (b6, b7, b8)))) w := by
  unfold Op.equalIn
  simp [Tryd.underlying27, run_underlying, go_sem, List.range', List.forIn_cons]
  by_cases h0 : a0 = b0
  case neg => simp [h0]
  by_cases h1 : a1 = b1
  case neg => simp [h0, h1]
  by_cases h2 : a2 = b2
  case neg => simp [h0, h1, h2]
  by_cases h3 : a3 = b3
  case neg => simp [h0, h1, h2, h3]
  by_cases h4 : a4 = b4
  case neg => simp [h0, h1, h2, h3, h4]
  by_cases h5 : a5 = b5
  case neg => simp [h0, h1, h2, h3, h4, h5]
  by_cases h6 : a6 = b6
  case neg => simp [h0, h1, h2, h3, h4, h5, h6]
  by_cases h7 : a7 = b7
  case neg => simp [h0, h1, h2, h3, h4, h5, h6, h7]
  by_cases h8 : a8 = b8
  case neg => simp [h0, h1, h2, h3, h4, h5, h6, h7, h8]
  simp [h0, h1, h2, h3, h4, h5, h6, h7, h8]
theorem eql_t27 {t : T} {m : Mem} {dst : Option Tmp} {rt ty' : TypeId} {pos : String} {after : Array Edge} {guard : Option (Nat × Bool)} {x y : Operand} {a0 a1 a2 a3 a4 a5 a6 a7 a8 b0 b1 b2 b3 b4 b5 b6 b7 b8 : Int} (hx : t.ev x = (.agg #[.int .i64 a0, .int .i64 a1, .int .i64 a2, .int .i64 a3, .int .i64 a4, .int .i64 a5, .int .i64 a6, .int .i64 a7, .int .i64 a8])) (hy : t.ev y = (.agg #[.int .i64 b0, .int .i64 b1, .int .i64 b2, .int .i64 b3, .int .i64 b4, .int .i64 b5, .int .i64 b6, .int .i64 b7, .int .i64 b8])) :
    OQ Tryd.prog ⟨dst, .binOp .eql 27 x y ty', rt, pos, after, guard⟩ t m (.bool (decide (((a0, a1, a2), (a3, a4, a5), (a6, a7, a8)) = ((b0, b1, b2), (b3, b4, b5), (b6, b7, b8))))) := by
  refine OQ.closed (fun cs b => by simp) (fun z hz => ?_) (fun w => ?_) rfl
  · simp [Op.operands] at hz
    rcases hz with rfl | rfl
    · rw [hx]; rfl
    · rw [hy]; rfl
  · have e := eqr_t27 9998 w a0 a1 a2 a3 a4 a5 a6 a7 a8 b0 b1 b2 b3 b4 b5 b6 b7 b8
    have hgt : (Tryd.prog).eqGuardType (Tryd.prog).depth 27 = false := by kernel_rfl
    have hg : (eqGuard .eql 27 x y (t.ev x) (t.ev y)).run Tryd.prog w = .ok () w := by
      rw [hx, hy]
      simp [eqGuard, program, Sem.run, Sem.run_bind, hgt]
    rw [hx, hy] at hg
    simp only [execOp, hx, hy, Sem.run_bind, hg, Result.andThen_ok, binOp, Op.equal, Op.maxDepth]
    erw [e]
    simp [go_sem]
theorem nel_t27 {t : T} {m : Mem} {dst : Option Tmp} {rt ty' : TypeId} {pos : String} {after : Array Edge} {guard : Option (Nat × Bool)} {x y : Operand} {a0 a1 a2 a3 a4 a5 a6 a7 a8 b0 b1 b2 b3 b4 b5 b6 b7 b8 : Int} (hx : t.ev x = (.agg #[.int .i64 a0, .int .i64 a1, .int .i64 a2, .int .i64 a3, .int .i64 a4, .int .i64 a5, .int .i64 a6, .int .i64 a7, .int .i64 a8])) (hy : t.ev y = (.agg #[.int .i64 b0, .int .i64 b1, .int .i64 b2, .int .i64 b3, .int .i64 b4, .int .i64 b5, .int .i64 b6, .int .i64 b7, .int .i64 b8])) :
    OQ Tryd.prog ⟨dst, .binOp .neq 27 x y ty', rt, pos, after, guard⟩ t m (.bool (!(decide (((a0, a1, a2), (a3, a4, a5), (a6, a7, a8)) = ((b0, b1, b2), (b3, b4, b5), (b6, b7, b8)))))) := by
  refine OQ.closed (fun cs b => by simp) (fun z hz => ?_) (fun w => ?_) rfl
  · simp [Op.operands] at hz
    rcases hz with rfl | rfl
    · rw [hx]; rfl
    · rw [hy]; rfl
  · have e := eqr_t27 9998 w a0 a1 a2 a3 a4 a5 a6 a7 a8 b0 b1 b2 b3 b4 b5 b6 b7 b8
    have hgt : (Tryd.prog).eqGuardType (Tryd.prog).depth 27 = false := by kernel_rfl
    have hg : (eqGuard .neq 27 x y (t.ev x) (t.ev y)).run Tryd.prog w = .ok () w := by
      rw [hx, hy]
      simp [eqGuard, program, Sem.run, Sem.run_bind, hgt]
    rw [hx, hy] at hg
    simp only [execOp, hx, hy, Sem.run_bind, hg, Result.andThen_ok, binOp, Op.equal, Op.maxDepth]
    erw [e]
    simp [go_sem]
theorem Ints_c (L : List Int) (hl : L.length ≤ 1000) (z1 z2 : Nat) : PCalls Tryd.prog 14 [.slice (some ⟨0, 0, none⟩) L.length INF, .slice (some ⟨1, 0, none⟩) L.length INF] [some ⟨flatI L, false, z1⟩, some ⟨flatI L, false, z2⟩] (.bool true) := by
  have hg : ∀ k, k < L.length → (flatI L)[k]? = some (.int .i64 (L.getD k 0)) := fun k hk => by have := flatI_get L k hk; rwa [Nat.mul_one] at this
  refine PCalls.enter (t := [.slice (some ⟨0, 0, none⟩) L.length INF, .slice (some ⟨1, 0, none⟩) L.length INF, undef, undef, undef, undef, undef, undef, undef, undef, undef, undef, undef, undef, undef, undef, undef, undef, undef, undef, undef, undef, undef, undef, undef, undef]) Tryd.func14 rfl (ro2 _ _ rfl rfl) rfl fun E => ?_
  repeat' (first
    | with_reducible refine Then.n ?_
    | with_reducible refine Then.r ?_
    | with_reducible refine Then.x ?_
    | with_reducible refine InB.n ?_
    | with_reducible refine InB.r ?_
    | with_reducible refine InB.hit ?_
    | with_reducible refine InB.miss (by decide) ?_
    | ((with_reducible refine AL.on ?_); first
      | ((first | ((with_reducible refine AL.k_move ?_); first | (refine AL.q rfl (OQ.move (by conv => lhs; whnf)) ?_)) | ((with_reducible refine AL.k_assign ?_); first | (refine AL.q rfl (OQ.assign (by conv => lhs; whnf)) ?_)) | ((with_reducible refine AL.k_binOp ?_); first | refine AL.q rfl (OQ.neq rfl rfl) ?_ | refine AL.q rfl (OQ.lss rfl rfl) ?_ | refine AL.q rfl (OQ.addi rfl rfl (by omega)) ?_ | refine AL.q rfl (OQ.add rfl rfl) ?_) | ((with_reducible refine AL.k_call ?_); first | refine AL.q rfl (OQ.lenS (xt := 33) (r := (none, 1, false)) rfl (by kernel_rfl)) ?_)); (conv => (arg 5; try tactic => exact nrm)))
      | refine AL.nil ?_)
    | ((with_reducible refine AW.on ?_); first
      | refine AW.seq ?_
      | refine AW.skip ?_
      | refine AW.exit ?_
      | refine AW.ret ?_
      | ((refine AW.block (id := 0) ?_); (refine AW.wk (Wk.forget [true, true, false, false, false, true, false, false, false, false, false, false, false, false, false, false, false, false, false, false, false, false, false, false, false, false] rfl) ?_); (conv => (arg 4; simp only [fgt, if_true, if_false, Bool.false_eq_true])); (refine AW.loop (fun n t' m => ∃ k : Nat, n = L.length - k ∧ k ≤ L.length ∧ t' = [.slice (some ⟨0, 0, none⟩) L.length INF, .slice (some ⟨1, 0, none⟩) L.length INF, junk, junk, junk, .int .i64 (k), junk, junk, junk, junk, junk, junk, junk, junk, junk, junk, junk, junk, junk, junk, junk, junk, junk, junk, junk, junk] ∧ m = [some ⟨flatI L, false, z1⟩, some ⟨flatI L, false, z2⟩]) (L.length) (by exact ⟨0, rfl, Nat.zero_le _, rfl, rfl⟩) ?_); (rintro n t' m ⟨k, rfl, hk, rfl, rfl⟩))
      | refine AW.block ?_
      | (refine AW.draw (id := 6) 9 #[0, 0, 3, 7, 0, 0, 48, 112, 255] (by kernel_rfl) (by kernel_rfl) ?_; (conv => (arg 8; simp only [List.take_succ_cons, List.take_zero])); (have hkl : k < L.length := by omega))
      | (refine AW.region (id := 2) ?_; exfalso; first | omega | (simp at *; done); done)
      | (refine AW.region (id := 7) ?_; exfalso; first | omega | (simp at *; done); done)
      | refine AW.region ?_
      | (refine AW.conds rfl (fun hc => ?_) (fun hc => ?_) <;> (try simp only [decide_eq_true_eq, decide_eq_false_iff_not, Bool.not_true, Bool.not_false, Bool.not_eq_true', Bool.not_eq_false', Int.not_lt, Int.not_le, Classical.not_not, ne_eq] at hc) <;> first | (exfalso; first | contradiction | (first | omega | (simp at *; done)); done) | skip))
    | ((with_reducible refine AD.on ?_); first
      | ((first | ((with_reducible refine AD.k_move ?_); first | (refine AD.q rfl (OQ.move (by conv => lhs; whnf)) rfl rfl rfl ?_)) | ((with_reducible refine AD.k_binOp ?_); first | refine AD.q rfl (OQ.neq rfl rfl) rfl rfl rfl ?_) | ((with_reducible refine AD.k_load ?_); first | (refine AD.q rfl (OQ.load1 (ty := 3) rfl (by kernel_rfl) (by first | (first | exact hg k hkl | (rw [Nat.mul_one]; exact hg k hkl)) | (conv => lhs; whnf))) rfl rfl rfl ?_))); (conv => (arg 10; try tactic => exact nrm)))
      | ((first | first | refine AD.q rfl (OQ.idxAddr (ty := 33) (z := 1) (g := false) rfl rfl (by kernel_rfl) (by omega) (by omega)) rfl rfl rfl ?_); (conv => (arg 10; try tactic => exact nrm)))
      | (refine AD.nil ?_; (conv => (arg 4; simp only [List.drop_succ_cons, List.drop_zero, List.drop_nil])); (conv => (arg 5; try tactic => exact nrm)); (conv => (arg 6; try tactic => exact nrm))))
    | ((with_reducible refine ex_on ?_); exact ⟨L.length - (k + 1), _, _, by omega, Wk.forget [true, true, false, false, false, true, false, false, false, false, false, false, false, false, false, false, false, false, false, false, false, false, false, false, false, false] rfl, k + 1, rfl, by omega, rfl, rfl⟩)
    | ((with_reducible refine FinP.on ?_); (first | refine FinP.ret (.tmp (by conv => lhs; whnf) .nil) ?_ rfl | refine FinP.end (.tmp (by conv => lhs; whnf) .nil) ?_ rfl); (try simp only [pack, List.drop, List.take]); all_goals (rfl)))
theorem Ints_0 : PCalls Tryd.prog 14 [.slice none 0 0, .slice none 0 0] [] (.bool true) := by
  refine PCalls.enter (t := [.slice none 0 0, .slice none 0 0, undef, undef, undef, undef, undef, undef, undef, undef, undef, undef, undef, undef, undef, undef, undef, undef, undef, undef, undef, undef, undef, undef, undef, undef]) Tryd.func14 rfl (ro_nil) rfl fun E => ?_
  repeat' (first
    | with_reducible refine Then.n ?_
    | with_reducible refine Then.r ?_
    | with_reducible refine Then.x ?_
    | with_reducible refine InB.n ?_
    | with_reducible refine InB.r ?_
    | with_reducible refine InB.hit ?_
    | with_reducible refine InB.miss (by decide) ?_
    | ((with_reducible refine AL.on ?_); first
      | ((first | ((with_reducible refine AL.k_move ?_); first | (refine AL.q rfl (OQ.move (by conv => lhs; whnf)) ?_)) | ((with_reducible refine AL.k_assign ?_); first | (refine AL.q rfl (OQ.assign (by conv => lhs; whnf)) ?_)) | ((with_reducible refine AL.k_binOp ?_); first | refine AL.q rfl (OQ.neq rfl rfl) ?_ | refine AL.q rfl (OQ.lss rfl rfl) ?_ | refine AL.q rfl (OQ.addi rfl rfl (by omega)) ?_ | refine AL.q rfl (OQ.add rfl rfl) ?_) | ((with_reducible refine AL.k_call ?_); first | refine AL.q rfl (OQ.lenS (xt := 33) (r := (none, 1, false)) rfl (by kernel_rfl)) ?_)); (conv => (arg 5; try tactic => exact nrm)))
      | refine AL.nil ?_)
    | ((with_reducible refine AW.on ?_); first
      | refine AW.seq ?_
      | refine AW.skip ?_
      | refine AW.exit ?_
      | refine AW.ret ?_
      | (refine AW.block (id := 0) ?_; refine AW.unroll 1 ?_)
      | refine AW.block ?_
      | (refine AW.draw (id := 6) 9 #[0, 0, 3, 7, 0, 0, 48, 112, 255] (by kernel_rfl) (by kernel_rfl) ?_; (conv => (arg 8; simp only [List.take_succ_cons, List.take_zero])))
      | (refine AW.region (id := 2) ?_; exfalso; first | omega | (simp at *; done); done)
      | (refine AW.region (id := 7) ?_; exfalso; first | omega | (simp at *; done); done)
      | refine AW.region ?_
      | (refine AW.conds rfl (fun hc => ?_) (fun hc => ?_) <;> (try simp only [decide_eq_true_eq, decide_eq_false_iff_not, Bool.not_true, Bool.not_false, Bool.not_eq_true', Bool.not_eq_false', Int.not_lt, Int.not_le, Classical.not_not, ne_eq] at hc) <;> first | (exfalso; first | contradiction | (first | omega | (simp at *; done)); done) | skip))
    | ((with_reducible refine AD.on ?_); first
      | ((first | ((with_reducible refine AD.k_move ?_); first | (refine AD.q rfl (OQ.move (by conv => lhs; whnf)) rfl rfl rfl ?_)) | ((with_reducible refine AD.k_binOp ?_); first | refine AD.q rfl (OQ.neq rfl rfl) rfl rfl rfl ?_) | ((with_reducible refine AD.k_indexAddr ?_); first | refine AD.q rfl (OQ.idxAddr (ty := 33) (z := 1) (g := false) rfl rfl (by kernel_rfl) (by omega) (by omega)) rfl rfl rfl ?_) | ((with_reducible refine AD.k_load ?_); first | (refine AD.q rfl (OQ.load1 (ty := 3) rfl (by kernel_rfl) (by conv => lhs; whnf)) rfl rfl rfl ?_))); (conv => (arg 10; try tactic => exact nrm)))
      | (refine AD.nil ?_; (conv => (arg 4; simp only [List.drop_succ_cons, List.drop_zero, List.drop_nil])); (conv => (arg 5; try tactic => exact nrm)); (conv => (arg 6; try tactic => exact nrm))))
    | with_reducible refine AR.s ?_
    | ((with_reducible refine AR.out ?_); first | omega | (simp at *; done); done)
    | ((with_reducible refine FinP.on ?_); (first | refine FinP.ret (.tmp (by conv => lhs; whnf) .nil) ?_ rfl | refine FinP.end (.tmp (by conv => lhs; whnf) .nil) ?_ rfl); (try simp only [pack, List.drop, List.take]); all_goals (rfl)))
end
theorem Ints_q {m : Mem} {b c : Nat} (L : List Int) (hl : L.length ≤ 1000) (hb : m.at b = inB L) (hc : m.at c = inB L) : PCalls Tryd.prog 14 [inV b L, inV c L] m (.bool true) := by
  cases L with
  | nil =>
    rw [inV_n, inV_n]
    exact PCalls.any Ints_0 rfl rfl m
  | cons a L =>
    rw [inB_c] at hb hc
    rw [inV_c, inV_c]
    exact PCalls.via (fun i => if i = 0 then b else c) (Ints_c (a :: L) hl 1 1) (lies2i hb hc (flatI_scal _) (flatI_scal _)) rfl rfl rfl rfl
theorem RankOf_k {m : Mem} {b n : Nat} {blk : Blk} {l : List Ep} {nm : ByteArray} (hn : nm.size ≤ 1000) (hR : SRight l) (hN : nameB nm.data.toList = true) (rk r0 r1 r2 : Int) (L : List Int) (hrk : rkA (sxN (NM l)) = rk) (hr0 : rkT (NM l).yy (NM l).zz (sxN (NM l)).mx = r0) (hr1 : rkT (NM l).zz (NM l).xx (sxN (NM l)).my = r1) (hr2 : rkT (NM l).xx (NM l).yy (sxN (NM l)).mz = r2)
    (hL : D8 (r0 = rk) (r1 = rk) (r2 = rk) L) (hb : m.at b = some blk) (hc : blk.cells = flatE l) (hln : l.length = n) (hg : m.at 1 = some glB) :
    ACallsK (AtG 1 0) Tryd.prog 9 [srI nm b n] m (.tuple #[.int .i64 rk, inV m.length L, .int .i64 0]) (m ++ [inB L]) := by
  subst hln
  refine ACallsK.viaN (m0 := [some ⟨flatE l, false, blk.esz⟩, some glB]) (x := inB L) (fun i => if i = 0 then b else 1) (AtG.via (n0 := 2) (by decide) rfl) (RankOf_y hn hR hN blk.esz rk r0 r1 r2 L hrk hr0 hr1 hr2 hL) (fun x bk hx => ?_) (fun x hx => ?_) (inB_scal L) rfl rfl ?_ ?_
  · have := Mem.at_lt hx
    match x, this with
    | 0, _ =>
      cases hx
      exact ⟨rfl, ok1_of_scal (flatE_scal l), blk, hb, rfl, fun j v hv => by rw [rn1_scal (List.all_eq_true.1 (flatE_scal l) v (List.mem_of_getElem? hv)), hc]; exact hv⟩
    | 1, _ =>
      cases hx
      exact ⟨rfl, rfl, _, hg, rfl, fun j v hv => by rw [rn1_scal (List.all_eq_true.1 (show glB.cells.all Ab.scal = true from rfl) v (List.mem_of_getElem? hv))]; exact hv⟩
    | x + 2, h => exact absurd h (by simp)
  · match x, hx with
    | 0, _ => exact ⟨_, rfl⟩
    | 1, _ => exact ⟨_, rfl⟩
    | x + 2, h => exact absurd h (by simp)
  · show Value.tuple #[.int .i64 rk, rn2 _ (inV 2 L), .int .i64 0] = _
    rw [inV_rn2]
    simp [τn]
  · show (true && (ok2 3 (inV 2 L) && (true && true))) = true
    rw [inV_ok2 L (by decide)]
    rfl
theorem rRankOf_k {m : Mem} {b n : Nat} {blk : Blk} (nm : ByteArray) (l : List Ep) (hR : SRight l) (rk u0 u1 u2 : Int) (L : List Int) (hrk : rkF (rwT l l.length) (rwT l l.length).length = rk)
    (hu0 : rkF (rwT l l.length ++ [(1, 0, 0)]) (rwT l l.length ++ [(1, 0, 0)]).length = u0) (hu1 : rkF (rwT l l.length ++ [(0, 1, 0)]) (rwT l l.length ++ [(0, 1, 0)]).length = u1) (hu2 : rkF (rwT l l.length ++ [(0, 0, 1)]) (rwT l l.length ++ [(0, 0, 1)]).length = u2)
    (hL : D8 (rk < u0) (rk < u1) (rk < u2) L) (hb : m.at b = some blk) (hc : blk.cells = flatE l) (hln : l.length = n) :
    ACalls Tryd.prog 13 [srI nm b n] m (.tuple #[.int .i64 rk, inV m.length L]) (m ++ [inB L]) := by
  subst hln
  refine ACalls.viaN (m0 := [some ⟨flatE l, false, blk.esz⟩]) (x := inB L) (fun _ => b) (rRankOf_y nm l hR blk.esz rk u0 u1 u2 L hrk hu0 hu1 hu2 hL) (fun x bk hx => ?_) (fun x hx => ?_) (inB_scal L) rfl rfl ?_ ?_
  · have := Mem.at_lt hx
    match x, this with
    | 0, _ =>
      cases hx
      exact ⟨rfl, ok1_of_scal (flatE_scal l), blk, hb, rfl, fun j v hv => by rw [rn1_scal (List.all_eq_true.1 (flatE_scal l) v (List.mem_of_getElem? hv)), hc]; exact hv⟩
    | x + 1, h => exact absurd h (by simp)
  · match x, hx with
    | 0, _ => exact ⟨_, rfl⟩
    | x + 1, h => exact absurd h (by simp)
  · show Value.tuple #[.int .i64 rk, rn2 _ (inV 1 L)] = _
    rw [inV_rn2]
    simp [τn]
  · show (true && (ok2 2 (inV 1 L) && true)) = true
    rw [inV_ok2 L (by decide)]
    rfl
section
attribute [local irreducible] OQ OW AL AW AD AF SW inV inB
theorem SnL_n {v : Value} {m0 : Mem} {l : List Ep} (nm : ByteArray) (h : Sh l v m0) (hn : (nm.size : Int) ≤ 9223372036854775807) (hl : (l.length : Int) ≤ 9223372036854775807) (hf : fewS nm.size l.length = false) : PCalls Tryd.prog 3 [srV nm v] m0 (.bool true) := by
  have HA := awake_q
  have HF := fun (m : Mem) (v : Value) (hS : SlE m v l) => few_q nm hS hn hl
  rw [hf] at HF
  have hro := h.ro
  rcases h with ⟨rfl, rfl, h3⟩ | ⟨rfl, rfl, h3⟩ | ⟨z0, rfl, rfl⟩
  all_goals
    refine PCalls.enter (t := [srV nm _, undef, undef, undef, undef, undef, undef, undef, undef, undef, undef, undef, undef, undef, undef, undef, undef, undef, undef, undef, undef, undef, undef, undef, undef, undef, undef, undef, undef, undef, undef, undef, undef, undef, undef, undef, undef, undef, undef, undef, undef, undef, undef, undef, undef, undef, undef, undef, undef, undef, undef, undef, undef, undef, undef, undef, undef, undef, undef, undef, undef, undef, undef, undef, undef, undef, undef, undef, undef, undef, undef, undef, undef, undef, undef, undef, undef, undef, undef, undef, undef, undef, undef, undef, undef, undef, undef, undef, undef, undef, undef, undef, undef, undef, undef, undef, undef, undef, undef, undef, undef, undef, undef, undef, undef]) Tryd.func3 rfl (hro) rfl fun E => ?_
    repeat' (first
      | with_reducible refine Then.n ?_
      | with_reducible refine Then.r ?_
      | with_reducible refine Then.x ?_
      | with_reducible refine InB.n ?_
      | with_reducible refine InB.r ?_
      | with_reducible refine InB.hit ?_
      | with_reducible refine InB.miss (by decide) ?_
      | ((with_reducible refine AL.on ?_); first
        | (refine AL.gd rfl ?_; first | (refine AL.gskip rfl rfl ?_; (conv => (arg 5; try tactic => exact nrm))) | (refine AL.gs1 rfl rfl (fun hc => ?_) (fun hc => ?_) <;> (try simp only [decide_eq_true_eq, decide_eq_false_iff_not, Bool.not_true, Bool.not_false, Bool.not_eq_true', Bool.not_eq_false', Int.not_lt, Int.not_le, Classical.not_not, ne_eq] at hc) <;> first | (exfalso; first | contradiction | (first | omega | (simp at *; done)); done) | (conv => (arg 5; try tactic => exact nrm))) | (refine AL.gs0 rfl rfl (fun hc => ?_) (fun hc => ?_) <;> (try simp only [decide_eq_true_eq, decide_eq_false_iff_not, Bool.not_true, Bool.not_false, Bool.not_eq_true', Bool.not_eq_false', Int.not_lt, Int.not_le, Classical.not_not, ne_eq] at hc) <;> first | (exfalso; first | contradiction | (first | omega | (simp at *; done)); done) | (conv => (arg 5; try tactic => exact nrm))))
        | ((first | ((with_reducible refine AL.k_move ?_); first | (refine AL.q rfl (OQ.move (by conv => lhs; whnf)) ?_)) | ((with_reducible refine AL.k_assign ?_); first | (refine AL.q rfl (OQ.assign (by conv => lhs; whnf)) ?_)) | ((with_reducible refine AL.k_load ?_); first | refine AL.q rfl (OQ.loadN (ty := 24) (n := 2) rfl (by kernel_rfl) (by kernel_rfl) rfl) ?_ | refine AL.q rfl (OQ.loadN (ty := 27) (n := 9) rfl (by kernel_rfl) (by kernel_rfl) rfl) ?_ | refine AL.q rfl (OQ.loadN (ty := 28) (n := 3) rfl (by kernel_rfl) (by kernel_rfl) rfl) ?_) | ((with_reducible refine AL.k_binOp ?_); first | refine AL.q rfl (OQ.neq rfl rfl) ?_ | refine AL.q rfl (OQ.eql rfl rfl) ?_ | refine AL.q rfl (eql_t27 rfl rfl) ?_ | refine AL.q rfl (eql_t28 rfl rfl) ?_) | ((with_reducible refine AL.k_call ?_); first | refine AL.q rfl (OQ.lenS (xt := 33) (r := (none, 1, false)) rfl (by kernel_rfl)) ?_) | ((with_reducible refine AL.k_extract ?_); first | refine AL.q rfl (OQ.extract rfl rfl) ?_) | ((with_reducible refine AL.k_pick ?_); first | (refine AL.q rfl (OQ.pickT rfl (by with_reducible rfl) (by conv => lhs; whnf)) ?_) | (refine AL.q rfl (OQ.pickF rfl (by with_reducible rfl) (by conv => lhs; whnf)) ?_)) | ((with_reducible refine AL.k_unOp ?_); first | refine AL.q rfl (OQ.not rfl) ?_)); (conv => (arg 5; try tactic => exact nrm)))
        | ((first | ((with_reducible refine AL.k_call ?_); first | refine AL.pcall (g := 5) rfl (by kernel_rfl) rfl (HA _) ?_ | refine AL.pcall (g := 6) rfl (by kernel_rfl) rfl ((by first | exact HF _ _ (.blk 0 _ rfl rfl rfl) | exact HF _ _ (.nil h3 rfl) | exact HF _ _ (.lost h3 rfl))) ?_) | ((with_reducible refine AL.k_build ?_); first | refine AL.q rfl (OQ.buildA (ty := 27) (zs := [.int .i64 0, .int .i64 0, .int .i64 0, .int .i64 0, .int .i64 0, .int .i64 0, .int .i64 0, .int .i64 0, .int .i64 0]) (n := 1) (k := 9) (g := false) (by kernel_rfl) rfl (by kernel_rfl) rfl rfl rfl) ?_ | refine AL.q rfl (OQ.buildA (ty := 28) (zs := [.int .i64 0, .int .i64 0, .int .i64 0]) (n := 1) (k := 3) (g := false) (by kernel_rfl) rfl (by kernel_rfl) rfl rfl rfl) ?_)); (conv => (arg 5; try tactic => exact nrm)))
        | ((first | ((with_reducible refine AL.k_alloc ?_); first | refine AL.w rfl (OW.alloc (ty := 27) (z := [.int .i64 0, .int .i64 0, .int .i64 0, .int .i64 0, .int .i64 0, .int .i64 0, .int .i64 0, .int .i64 0, .int .i64 0]) (by kernel_rfl) rfl) ?_ | refine AL.w rfl (OW.alloc (ty := 28) (z := [.int .i64 0, .int .i64 0, .int .i64 0]) (by kernel_rfl) rfl) ?_) | ((with_reducible refine AL.k_store ?_); first | (refine AL.w rfl (OW.store (ty := 27) (n := 9) rfl (by conv => lhs; whnf) rfl rfl (by kernel_rfl) rfl rfl (by decide) rfl (Nat.le_of_ble_eq_true rfl) (by intro r h; cases h)) ?_) | (refine AL.w rfl (OW.store (ty := 28) (n := 3) rfl (by conv => lhs; whnf) rfl rfl (by kernel_rfl) rfl rfl (by decide) rfl (Nat.le_of_ble_eq_true rfl) (by intro r h; cases h)) ?_)) | ((with_reducible refine AL.k_box ?_); first | (refine AL.w rfl (OW.box (by conv => lhs; whnf) (by intro r h; cases h)) ?_))); (conv => (arg 5; try tactic => exact nrm)); (conv => (arg 6; try tactic => exact nrm)))
        | (refine AL.bs rfl (fun hc => ?_) (fun hc => ?_) <;> (fail_if_success (with_reducible exact lit_no hc)) <;> (try simp only [decide_eq_true_eq, decide_eq_false_iff_not, Bool.not_true, Bool.not_false, Bool.not_eq_true', Bool.not_eq_false', Int.not_lt, Int.not_le, Classical.not_not, ne_eq] at hc) <;> first | (exfalso; first | contradiction | (first | omega | (simp at *; done)); done) | (conv => (arg 5; try tactic => exact nrm)))
        | refine AL.nil ?_)
      | ((with_reducible refine AW.on ?_); first
        | refine AW.seq ?_
        | refine AW.skip ?_
        | refine AW.exit ?_
        | refine AW.ret ?_
        | refine AW.block ?_
        | (refine AW.region (id := 2) ?_; exfalso; first | omega | (simp at *; done); done)
        | (refine AW.region (id := 5) ?_; exfalso; first | omega | (simp at *; done); done)
        | refine AW.region ?_
        | (refine AW.conds rfl (fun hc => ?_) (fun hc => ?_) <;> (try simp only [decide_eq_true_eq, decide_eq_false_iff_not, Bool.not_true, Bool.not_false, Bool.not_eq_true', Bool.not_eq_false', Int.not_lt, Int.not_le, Classical.not_not, ne_eq] at hc) <;> first | (exfalso; first | contradiction | (first | omega | (simp at *; done)); done) | skip))
      | ((with_reducible refine FinP.on ?_); (first | refine FinP.ret (.tmp (by conv => lhs; whnf) .nil) ?_ rfl | refine FinP.end (.tmp (by conv => lhs; whnf) .nil) ?_ rfl); (try simp only [pack, List.drop, List.take]); all_goals (rfl)))
theorem SnL_e {v : Value} {m0 : Mem} {l : List Ep} (nm : ByteArray) (h : Sh l v m0) (hn : nm.size ≤ 1000) (hl : l.length ≤ 1000) (hf : fewS nm.size l.length = true) (c : Int) (hc : srE nm.data.toList l = c) (hc0 : c ≠ 0) : PCalls Tryd.prog 3 [srV nm v] m0 (.bool true) := by
  have HA := awake_q
  have HF := fun (m : Mem) (v : Value) (hS : SlE m v l) => few_q nm hS (by omega) (by omega)
  rw [hf] at HF
  have HC := fun (m : Mem) (v : Value) (hS : SlE m v l) => rCheckSeries_q nm hS hn hl
  rw [hc] at HC
  have HP := fun (m : Mem) (v : Value) (hS : SlE m v l) => CheckSeries_q nm hS hn hl
  rw [hc] at HP
  have HY := fun (m : Mem) (v : Value) (hS : SlE m v l) => Copy_q nm hS hl
  have H1 := fun (m : Mem) (b : Nat) (k : Blk) (hb : m.at b = some k) (hk : k.cells = flatE l) => NormalOf_e (m := m) c (.blk b k rfl hb hk) hn hl hc hc0
  have H2 := fun (m : Mem) (b : Nat) (k : Blk) (hb : m.at b = some k) (hk : k.cells = flatE l) => RankOf_e (m := m) c (.blk b k rfl hb hk) hn hl hc hc0
  have hro := h.ro
  rcases h with ⟨rfl, rfl, h3⟩ | ⟨rfl, rfl, h3⟩ | ⟨z0, rfl, rfl⟩
  all_goals
    refine PCalls.enter (t := [srV nm _, undef, undef, undef, undef, undef, undef, undef, undef, undef, undef, undef, undef, undef, undef, undef, undef, undef, undef, undef, undef, undef, undef, undef, undef, undef, undef, undef, undef, undef, undef, undef, undef, undef, undef, undef, undef, undef, undef, undef, undef, undef, undef, undef, undef, undef, undef, undef, undef, undef, undef, undef, undef, undef, undef, undef, undef, undef, undef, undef, undef, undef, undef, undef, undef, undef, undef, undef, undef, undef, undef, undef, undef, undef, undef, undef, undef, undef, undef, undef, undef, undef, undef, undef, undef, undef, undef, undef, undef, undef, undef, undef, undef, undef, undef, undef, undef, undef, undef, undef, undef, undef, undef, undef, undef]) Tryd.func3 rfl (hro) rfl fun E => ?_
    repeat' (first
      | with_reducible refine Then.n ?_
      | with_reducible refine Then.r ?_
      | with_reducible refine Then.x ?_
      | with_reducible refine InB.n ?_
      | with_reducible refine InB.r ?_
      | with_reducible refine InB.hit ?_
      | with_reducible refine InB.miss (by decide) ?_
      | ((with_reducible refine AL.on ?_); first
        | (refine AL.gd rfl ?_; first | (refine AL.gskip rfl rfl ?_; (conv => (arg 5; try tactic => exact nrm))) | (refine AL.gs1 rfl rfl (fun hc => ?_) (fun hc => ?_) <;> (try simp only [decide_eq_true_eq, decide_eq_false_iff_not, Bool.not_true, Bool.not_false, Bool.not_eq_true', Bool.not_eq_false', Int.not_lt, Int.not_le, Classical.not_not, ne_eq] at hc) <;> first | (exfalso; first | contradiction | (first | omega | (simp at *; done)); done) | (conv => (arg 5; try tactic => exact nrm))) | (refine AL.gs0 rfl rfl (fun hc => ?_) (fun hc => ?_) <;> (try simp only [decide_eq_true_eq, decide_eq_false_iff_not, Bool.not_true, Bool.not_false, Bool.not_eq_true', Bool.not_eq_false', Int.not_lt, Int.not_le, Classical.not_not, ne_eq] at hc) <;> first | (exfalso; first | contradiction | (first | omega | (simp at *; done)); done) | (conv => (arg 5; try tactic => exact nrm))))
        | ((first | ((with_reducible refine AL.k_move ?_); first | (refine AL.q rfl (OQ.move (by conv => lhs; whnf)) ?_)) | ((with_reducible refine AL.k_assign ?_); first | (refine AL.q rfl (OQ.assign (by conv => lhs; whnf)) ?_)) | ((with_reducible refine AL.k_load ?_); first | refine AL.q rfl (OQ.loadN (ty := 24) (n := 2) rfl (by kernel_rfl) (by kernel_rfl) rfl) ?_ | refine AL.q rfl (OQ.loadN (ty := 27) (n := 9) rfl (by kernel_rfl) (by kernel_rfl) rfl) ?_ | refine AL.q rfl (OQ.loadN (ty := 28) (n := 3) rfl (by kernel_rfl) (by kernel_rfl) rfl) ?_) | ((with_reducible refine AL.k_binOp ?_); first | refine AL.q rfl (OQ.neq rfl rfl) ?_ | refine AL.q rfl (OQ.eql rfl rfl) ?_ | refine AL.q rfl (eql_t27 rfl rfl) ?_ | refine AL.q rfl (eql_t28 rfl rfl) ?_) | ((with_reducible refine AL.k_call ?_); first | refine AL.q rfl (OQ.lenS (xt := 33) (r := (none, 1, false)) rfl (by kernel_rfl)) ?_) | ((with_reducible refine AL.k_extract ?_); first | refine AL.q rfl (OQ.extract rfl rfl) ?_) | ((with_reducible refine AL.k_pick ?_); first | (refine AL.q rfl (OQ.pickT rfl (by with_reducible rfl) (by conv => lhs; whnf)) ?_) | (refine AL.q rfl (OQ.pickF rfl (by with_reducible rfl) (by conv => lhs; whnf)) ?_)) | ((with_reducible refine AL.k_unOp ?_); first | refine AL.q rfl (OQ.not rfl) ?_)); (conv => (arg 5; try tactic => exact nrm)))
        | ((first | ((with_reducible refine AL.k_call ?_); first | refine AL.pcall (g := 5) rfl (by kernel_rfl) rfl (HA _) ?_ | refine AL.pcall (g := 6) rfl (by kernel_rfl) rfl ((by first | exact HF _ _ (.blk 0 _ rfl rfl rfl) | exact HF _ _ (.nil h3 rfl) | exact HF _ _ (.lost h3 rfl))) ?_ | refine AL.pcall (g := 7) rfl (by kernel_rfl) rfl (H1 _ _ _ rfl rfl) ?_ | refine AL.pcall (g := 9) rfl (by kernel_rfl) rfl (H2 _ _ _ rfl rfl) ?_ | refine AL.pcall (g := 10) rfl (by kernel_rfl) rfl ((by first | exact HC _ _ (.blk 0 _ rfl rfl rfl) | exact HC _ _ (.nil h3 rfl) | exact HC _ _ (.lost h3 rfl))) ?_ | refine AL.pcall (g := 11) rfl (by kernel_rfl) rfl (HP _ _ (.blk _ _ rfl rfl rfl)) ?_) | ((with_reducible refine AL.k_build ?_); first | refine AL.q rfl (OQ.buildA (ty := 27) (zs := [.int .i64 0, .int .i64 0, .int .i64 0, .int .i64 0, .int .i64 0, .int .i64 0, .int .i64 0, .int .i64 0, .int .i64 0]) (n := 1) (k := 9) (g := false) (by kernel_rfl) rfl (by kernel_rfl) rfl rfl rfl) ?_ | refine AL.q rfl (OQ.buildA (ty := 28) (zs := [.int .i64 0, .int .i64 0, .int .i64 0]) (n := 1) (k := 3) (g := false) (by kernel_rfl) rfl (by kernel_rfl) rfl rfl rfl) ?_)); (conv => (arg 5; try tactic => exact nrm)))
        | ((first | ((with_reducible refine AL.k_call ?_); first | refine AL.acall (g := 8) rfl (by kernel_rfl) rfl ((by first | exact HY _ _ (.blk 0 _ rfl rfl rfl) | exact HY _ _ (.nil h3 rfl) | exact HY _ _ (.lost h3 rfl))) ?_) | ((with_reducible refine AL.k_alloc ?_); first | refine AL.w rfl (OW.alloc (ty := 27) (z := [.int .i64 0, .int .i64 0, .int .i64 0, .int .i64 0, .int .i64 0, .int .i64 0, .int .i64 0, .int .i64 0, .int .i64 0]) (by kernel_rfl) rfl) ?_ | refine AL.w rfl (OW.alloc (ty := 28) (z := [.int .i64 0, .int .i64 0, .int .i64 0]) (by kernel_rfl) rfl) ?_) | ((with_reducible refine AL.k_store ?_); first | (refine AL.w rfl (OW.store (ty := 27) (n := 9) rfl (by conv => lhs; whnf) rfl rfl (by kernel_rfl) rfl rfl (by decide) rfl (Nat.le_of_ble_eq_true rfl) (by intro r h; cases h)) ?_) | (refine AL.w rfl (OW.store (ty := 28) (n := 3) rfl (by conv => lhs; whnf) rfl rfl (by kernel_rfl) rfl rfl (by decide) rfl (Nat.le_of_ble_eq_true rfl) (by intro r h; cases h)) ?_)) | ((with_reducible refine AL.k_box ?_); first | (refine AL.w rfl (OW.box (by conv => lhs; whnf) (by intro r h; cases h)) ?_))); (conv => (arg 5; try tactic => exact nrm)); (conv => (arg 6; try tactic => exact nrm)))
        | (refine AL.bs rfl (fun hc => ?_) (fun hc => ?_) <;> (fail_if_success (with_reducible exact lit_no hc)) <;> (try simp only [decide_eq_true_eq, decide_eq_false_iff_not, Bool.not_true, Bool.not_false, Bool.not_eq_true', Bool.not_eq_false', Int.not_lt, Int.not_le, Classical.not_not, ne_eq] at hc) <;> first | (exfalso; first | contradiction | (first | omega | (simp at *; done)); done) | (conv => (arg 5; try tactic => exact nrm)))
        | refine AL.nil ?_)
      | ((with_reducible refine AW.on ?_); first
        | refine AW.seq ?_
        | refine AW.skip ?_
        | refine AW.exit ?_
        | refine AW.ret ?_
        | refine AW.block ?_
        | (refine AW.region (id := 2) ?_; exfalso; first | omega | (simp at *; done); done)
        | (refine AW.region (id := 4) ?_; exfalso; first | omega | (simp at *; done); done)
        | (refine AW.region (id := 9) ?_; exfalso; first | omega | (simp at *; done); done)
        | (refine AW.region (id := 12) ?_; exfalso; first | omega | (simp at *; done); done)
        | refine AW.region ?_
        | (refine AW.conds rfl (fun hc => ?_) (fun hc => ?_) <;> (try simp only [decide_eq_true_eq, decide_eq_false_iff_not, Bool.not_true, Bool.not_false, Bool.not_eq_true', Bool.not_eq_false', Int.not_lt, Int.not_le, Classical.not_not, ne_eq] at hc) <;> first | (exfalso; first | contradiction | (first | omega | (simp at *; done)); done) | skip))
      | ((with_reducible refine FinP.on ?_); (first | refine FinP.ret (.tmp (by conv => lhs; whnf) .nil) ?_ rfl | refine FinP.end (.tmp (by conv => lhs; whnf) .nil) ?_ rfl); (try simp only [pack, List.drop, List.take]); all_goals ((first | rfl | (simp; done)))))
theorem SnL_y {l : List Ep} (nm : ByteArray) (hn : nm.size ≤ 1000) (hl : l.length ≤ 1000) (hf : fewS nm.size l.length = true) (hR : SRight l) (hN : nameB nm.data.toList = true) (hc : srE nm.data.toList l = 0) : PCallsK (AtG 1 0) Tryd.prog 3 [srI nm 0 l.length] [some ⟨flatE l, false, 0⟩, some glB] (.bool true) := by
  have HA := awake_q
  have HF := fun (m : Mem) (v : Value) (hS : SlE m v l) => few_q nm hS (by omega) (by omega)
  rw [hf] at HF
  have HC := fun (m : Mem) (v : Value) (hS : SlE m v l) => rCheckSeries_q nm hS hn hl
  rw [hc] at HC
  have HP := fun (m : Mem) (v : Value) (hS : SlE m v l) => CheckSeries_q nm hS hn hl
  rw [hc] at HP
  have HY := fun (m : Mem) (v : Value) (hS : SlE m v l) => Copy_q nm hS hl
  have H1 := fun (m : Mem) (b : Nat) (k : Blk) (hb : m.at b = some k) (hk : k.cells = flatE l) => PCalls.via1 (m := m) (args0 := [srI nm 0 l.length]) (fun z0 => NormalOf_y hn hR hN z0) hb hk (flatE_scal l) rfl rfl rfl rfl
  have H2 := fun (m : Mem) (b : Nat) (k : Blk) (hb : m.at b = some k) (hk : k.cells = flatE l) => NormalOf_q nm l hR hb hk rfl
  have e : sx (rwT l l.length) = sxN (NM l) := by rw [← rws_w]; exact sx_nm (rws l)
  have hrk : rkF (rwT l l.length) (rwT l l.length).length = rkA (sxN (NM l)) := by rw [rkF_sx, e]
  obtain ⟨i0, i1, i2⟩ := open_iff (rwT l l.length)
  rw [e, hrk] at i0 i1 i2
  obtain ⟨L, hL⟩ := D8_ex (rkT (NM l).yy (NM l).zz (sxN (NM l)).mx = rkA (sxN (NM l))) (rkT (NM l).zz (NM l).xx (sxN (NM l)).my = rkA (sxN (NM l))) (rkT (NM l).xx (NM l).yy (sxN (NM l)).mz = rkA (sxN (NM l)))
  have hL' := D8_tr i0 i1 i2 hL
  have H3 := fun (m : Mem) (b : Nat) (k : Blk) (hb : m.at b = some k) (hk : k.cells = flatE l) (hg : m.at 1 = some glB) => RankOf_k hn hR hN _ _ _ _ L rfl rfl rfl rfl hL hb hk rfl hg
  have H4 := fun (m : Mem) (b : Nat) (k : Blk) (hb : m.at b = some k) (hk : k.cells = flatE l) => rRankOf_k nm l hR _ _ _ _ L hrk rfl rfl rfl hL' hb hk rfl
  have H5 := fun (m : Mem) (b c : Nat) (hb : m.at b = inB L) (hc : m.at c = inB L) => Ints_q L (by have := D8_len hL; omega) hb hc
  clear hL hL' i0 i1 i2 e hrk
  generalize rkA (sxN (NM l)) = rk at *
  generalize NM l = N at *
  refine PCallsK.enterJ (t := [srI nm 0 l.length, undef, undef, undef, undef, undef, undef, undef, undef, undef, undef, undef, undef, undef, undef, undef, undef, undef, undef, undef, undef, undef, undef, undef, undef, undef, undef, undef, undef, undef, undef, undef, undef, undef, undef, undef, undef, undef, undef, undef, undef, undef, undef, undef, undef, undef, undef, undef, undef, undef, undef, undef, undef, undef, undef, undef, undef, undef, undef, undef, undef, undef, undef, undef, undef, undef, undef, undef, undef, undef, undef, undef, undef, undef, undef, undef, undef, undef, undef, undef, undef, undef, undef, undef, undef, undef, undef, undef, undef, undef, undef, undef, undef, undef, undef, undef, undef, undef, undef, undef, undef, undef, undef, undef, undef]) Tryd.func3 rfl (ro2 _ _ rfl rfl) rfl fun E hE hG => ?_
  repeat' (first
    | with_reducible refine Then.n ?_
    | with_reducible refine Then.r ?_
    | with_reducible refine Then.x ?_
    | with_reducible refine InB.n ?_
    | with_reducible refine InB.r ?_
    | with_reducible refine InB.hit ?_
    | with_reducible refine InB.miss (by decide) ?_
    | ((with_reducible refine AL.on ?_); first
      | (refine AL.gd rfl ?_; first | (refine AL.gskip rfl rfl ?_; (conv => (arg 5; try tactic => exact nrm))) | (refine AL.gs1 rfl rfl (fun hc => ?_) (fun hc => ?_) <;> (try simp only [decide_eq_true_eq, decide_eq_false_iff_not, Bool.not_true, Bool.not_false, Bool.not_eq_true', Bool.not_eq_false', Int.not_lt, Int.not_le, Classical.not_not, ne_eq] at hc) <;> first | (exfalso; first | contradiction | (first | omega | (simp at *; done)); done) | (conv => (arg 5; try tactic => exact nrm))) | (refine AL.gs0 rfl rfl (fun hc => ?_) (fun hc => ?_) <;> (try simp only [decide_eq_true_eq, decide_eq_false_iff_not, Bool.not_true, Bool.not_false, Bool.not_eq_true', Bool.not_eq_false', Int.not_lt, Int.not_le, Classical.not_not, ne_eq] at hc) <;> first | (exfalso; first | contradiction | (first | omega | (simp at *; done)); done) | (conv => (arg 5; try tactic => exact nrm))))
      | ((first | ((with_reducible refine AL.k_move ?_); first | (refine AL.q rfl (OQ.move (by conv => lhs; whnf)) ?_)) | ((with_reducible refine AL.k_assign ?_); first | (refine AL.q rfl (OQ.assign (by conv => lhs; whnf)) ?_)) | ((with_reducible refine AL.k_load ?_); first | refine AL.q rfl (OQ.loadN (ty := 24) (n := 2) rfl (by kernel_rfl) (by kernel_rfl) rfl) ?_ | refine AL.q rfl (OQ.loadN (ty := 27) (n := 9) rfl (by kernel_rfl) (by kernel_rfl) rfl) ?_ | refine AL.q rfl (OQ.loadN (ty := 28) (n := 3) rfl (by kernel_rfl) (by kernel_rfl) rfl) ?_) | ((with_reducible refine AL.k_binOp ?_); first | refine AL.q rfl (OQ.neq rfl rfl) ?_ | refine AL.q rfl (OQ.eql rfl rfl) ?_ | refine AL.q rfl (eql_t27 rfl rfl) ?_ | refine AL.q rfl (eql_t28 rfl rfl) ?_) | ((with_reducible refine AL.k_call ?_); first | refine AL.q rfl (OQ.lenS (xt := 33) (r := (none, 1, false)) rfl (by kernel_rfl)) ?_) | ((with_reducible refine AL.k_extract ?_); first | refine AL.q rfl (OQ.extract rfl rfl) ?_) | ((with_reducible refine AL.k_pick ?_); first | (refine AL.q rfl (OQ.pickT rfl (by with_reducible rfl) (by conv => lhs; whnf)) ?_) | (refine AL.q rfl (OQ.pickF rfl (by with_reducible rfl) (by conv => lhs; whnf)) ?_)) | ((with_reducible refine AL.k_unOp ?_); first | refine AL.q rfl (OQ.not rfl) ?_)); (conv => (arg 5; try tactic => exact nrm)))
      | ((first | ((with_reducible refine AL.k_call ?_); first | refine AL.pcall (g := 5) rfl (by kernel_rfl) rfl (HA _) ?_ | refine AL.pcall (g := 6) rfl (by kernel_rfl) rfl (HF _ _ (.blk 0 _ rfl rfl rfl)) ?_ | refine AL.pcall (g := 7) rfl (by kernel_rfl) rfl (H1 _ _ _ rfl rfl) ?_ | refine AL.pcall (g := 10) rfl (by kernel_rfl) rfl (HC _ _ (.blk 0 _ rfl rfl rfl)) ?_ | refine AL.pcall (g := 11) rfl (by kernel_rfl) rfl (HP _ _ (.blk _ _ rfl rfl rfl)) ?_ | refine AL.pcall (g := 12) rfl (by kernel_rfl) rfl (H2 _ _ _ rfl rfl) ?_ | refine AL.pcall (g := 14) rfl (by kernel_rfl) rfl ((by exact H5 _ _ _ rfl rfl)) ?_) | ((with_reducible refine AL.k_build ?_); first | refine AL.q rfl (OQ.buildA (ty := 27) (zs := [.int .i64 0, .int .i64 0, .int .i64 0, .int .i64 0, .int .i64 0, .int .i64 0, .int .i64 0, .int .i64 0, .int .i64 0]) (n := 1) (k := 9) (g := false) (by kernel_rfl) rfl (by kernel_rfl) rfl rfl rfl) ?_ | refine AL.q rfl (OQ.buildA (ty := 28) (zs := [.int .i64 0, .int .i64 0, .int .i64 0]) (n := 1) (k := 3) (g := false) (by kernel_rfl) rfl (by kernel_rfl) rfl rfl rfl) ?_)); (conv => (arg 5; try tactic => exact nrm)))
      | ((first | ((with_reducible refine AL.k_call ?_); first | refine AL.acall (g := 8) rfl (by kernel_rfl) rfl ((HY _ _ (.blk 0 _ rfl rfl rfl))) ?_ | refine AL.acallK hG (g := 9) rfl (by kernel_rfl) rfl ((by exact H3 _ _ _ rfl rfl rfl)) ?_ | refine AL.acall (g := 13) rfl (by kernel_rfl) rfl ((by exact H4 _ _ _ rfl rfl)) ?_) | ((with_reducible refine AL.k_alloc ?_); first | refine AL.w rfl (OW.alloc (ty := 27) (z := [.int .i64 0, .int .i64 0, .int .i64 0, .int .i64 0, .int .i64 0, .int .i64 0, .int .i64 0, .int .i64 0, .int .i64 0]) (by kernel_rfl) rfl) ?_ | refine AL.w rfl (OW.alloc (ty := 28) (z := [.int .i64 0, .int .i64 0, .int .i64 0]) (by kernel_rfl) rfl) ?_) | ((with_reducible refine AL.k_store ?_); first | (refine AL.w rfl (OW.store (ty := 27) (n := 9) rfl (by conv => lhs; whnf) rfl rfl (by kernel_rfl) rfl rfl (by decide) rfl (Nat.le_of_ble_eq_true rfl) (by intro r h; cases h)) ?_) | (refine AL.w rfl (OW.store (ty := 28) (n := 3) rfl (by conv => lhs; whnf) rfl rfl (by kernel_rfl) rfl rfl (by decide) rfl (Nat.le_of_ble_eq_true rfl) (by intro r h; cases h)) ?_)) | ((with_reducible refine AL.k_box ?_); first | (refine AL.w rfl (OW.box (by conv => lhs; whnf) (by intro r h; cases h)) ?_))); (conv => (arg 5; try tactic => exact nrm)); (conv => (arg 6; try tactic => exact nrm)))
      | (refine AL.bs rfl (fun hc => ?_) (fun hc => ?_) <;> (fail_if_success (with_reducible exact lit_no hc)) <;> (try simp only [decide_eq_true_eq, decide_eq_false_iff_not, Bool.not_true, Bool.not_false, Bool.not_eq_true', Bool.not_eq_false', Int.not_lt, Int.not_le, Classical.not_not, ne_eq] at hc) <;> first | (exfalso; first | contradiction | (first | omega | (simp at *; done)); done) | (conv => (arg 5; try tactic => exact nrm)))
      | refine AL.nil ?_)
    | ((with_reducible refine AW.on ?_); first
      | refine AW.seq ?_
      | refine AW.skip ?_
      | refine AW.exit ?_
      | refine AW.ret ?_
      | refine AW.block ?_
      | (refine AW.region (id := 2) ?_; exfalso; first | omega | (simp at *; done); done)
      | (refine AW.region (id := 4) ?_; exfalso; first | omega | (simp at *; done); done)
      | (refine AW.region (id := 9) ?_; exfalso; first | omega | (simp at *; done); done)
      | (refine AW.region (id := 11) ?_; exfalso; first | omega | (simp at *; done); done)
      | refine AW.region ?_
      | (refine AW.conds rfl (fun hc => ?_) (fun hc => ?_) <;> (try simp only [decide_eq_true_eq, decide_eq_false_iff_not, Bool.not_true, Bool.not_false, Bool.not_eq_true', Bool.not_eq_false', Int.not_lt, Int.not_le, Classical.not_not, ne_eq] at hc) <;> first | (exfalso; first | contradiction | (first | omega | (simp at *; done)); done) | skip))
    | ((with_reducible refine FinJ.on ?_); first | exact FinJ.ret (.tmp (by conv => lhs; whnf) .nil) (jle_flat rfl) | exact FinJ.end (.tmp (by conv => lhs; whnf) .nil) (jle_flat rfl)))
end
end Go.Proofs.YthgbincoppnpgaaDoor
end

section
namespace Go.Proofs.YthgbincoppnpgaaDoor
open Go.ChangeShapes Go.WideShapes Go.ChangeAt Go Go.RowKit Go.Ab Go.Sr
set_option maxRecDepth 100000
set_option maxHeartbeats 4000000
theorem SnL_ne {v : Value} {m0 : Mem} {l : List Ep} (nm : ByteArray) (h : Sh l v m0) (hn : (nm.size : Int) ≤ 9223372036854775807) (hl : (l.length : Int) ≤ 9223372036854775807) (hx : ¬ (fewS nm.size l.length = true ∧ srE nm.data.toList l = 0)) : PCalls Tryd.prog 3 [srV nm v] m0 (.bool true) := by
  cases hf : fewS nm.size l.length with
  | false => exact SnL_n nm h hn hl hf
  | true =>
    have hb := of_decide_eq_true hf
    exact SnL_e nm h (by omega) (by omega) hf _ rfl fun hc => hx ⟨hf, hc⟩
/-- One series and the package variable. -/
theorem glueK {f : FuncId} {nm : ByteArray} {a : Option Addr} {l : List Ep} {cap : Nat} {us : List Value} {w : World} (hu : us.all flat = true) (hS : SlX w a (flatE l)) (hc : l.length ≤ cap) (hz : a = none → cap = 0) (h1 : 1 ≤ l.length)
    (g0 : w.cell? ⟨0, 0, none⟩ = some (.int .i64 0)) (g1 : w.cell? ⟨0, 1, none⟩ = some (.int .i64 1)) (g2 : w.cell? ⟨0, 2, none⟩ = some (.int .i64 2))
    (h : PCallsK (AtG 1 0) Tryd.prog f (srI nm 0 l.length :: us) [some ⟨flatE l, false, 0⟩, some glB] (.bool true)) :
    Calls Tryd.prog f (Value.agg #[.string nm, .slice a l.length cap] :: us).toArray w fun e w' => e = .returned (.bool true) ∧ Below w.heap.size w w' := by
  have hne : flatE l ≠ [] := fun h => by have := (flatE_nil l).1 h; omega
  have hva : vaX 0 l.length a.isNone = .slice (some ⟨0, 0, none⟩) l.length INF := by unfold vaX; rw [if_neg (by omega)]
  let ρ : Ren := fun b => if b = 0 then plX a (flatE l) else if b = 1 then some ⟨0, 0, 0, 0⟩ else none
  refine (h ρ _ w rfl (fun b pl hb => ?_) ?_ (fun b blk hb => ?_)).mono fun e w' ⟨v', he, hr, hb⟩ => ⟨by rw [he, hr.bool], hb⟩
  · have hb' : (if b = 0 then plX a (flatE l) else if b = 1 then some ⟨0, 0, 0, 0⟩ else none) = some pl := hb
    split at hb'
    · simp; omega
    · split at hb'
      · simp; omega
      · cases hb'
  · refine .tuple (by simp) fun i h h' => ?_
    match i, h with
    | 0, _ =>
      refine .agg rfl fun j g g' => ?_
      match j, g with
      | 0, _ => exact .scal rfl
      | 1, _ =>
        have := vaX_rel (ρ := ρ) (i := 0) hS (flatE_nil l) hc hz rfl
        rw [hva] at this
        exact this
    | i + 1, h =>
      have hi : i < us.length := by simpa using h
      have := List.all_eq_true.1 hu us[i] (List.getElem_mem hi)
      simpa using VRel.flat (ρ := ρ) this
  · have hlt := Mem.at_lt hb
    match b, hlt with
    | 0, _ =>
      cases hb
      have hbx : blX (flatE l) = some ⟨flatE l, false, 0⟩ := by unfold blX; rw [if_neg hne]
      obtain ⟨pl, k1, k2⟩ := blX_rel (ρ := ρ) (i := 0) (flatE_scal l) hS rfl hbx
      exact ⟨pl, k1, k2, fun ho => by cases ho⟩
    | 1, _ =>
      cases hb
      refine ⟨⟨0, 0, 0, 0⟩, rfl, ?_, fun ho => by cases ho⟩
      simp only [World.cell?] at g0 g1 g2
      cases ho : w.heap[0]? with
      | none => rw [ho] at g0; cases g0
      | some o =>
        rw [ho] at g0 g1 g2
        cases o with
        | cells c ty fr =>
          refine ⟨c, ty, fr, ho, rfl, fun i v hv => ?_, fun h => by cases h⟩
          match i with
          | 0 => cases hv; exact ⟨_, by simpa using g0, .scal rfl⟩
          | 1 => cases hv; exact ⟨_, by simpa using g1, .scal rfl⟩
          | 2 => cases hv; exact ⟨_, by simpa using g2, .scal rfl⟩
          | i + 3 => simp at hv
        | _ => simp at g0
    | b + 2, h => exact absurd h (by simp)

theorem allN : Tryd.prog.globalNamed "swath/series.all" = some 0 := by kernel_rfl
theorem allT : (Tryd.prog.globals[0]?).map (·.type) = some 28 := by kernel_rfl
theorem cells_3i : Tryd.prog.cellsOf 28 = 3 := by kernel_rfl
theorem cells_1i : Tryd.prog.cellsOf 3 = 1 := by kernel_rfl
/-- What the given premise says of the variable's cells. -/
theorem cell_of_laid {W : World} (h : laidMet Tryd.prog [("swath/series.all", Rows.laid_swath_series_all)] W) : W.cell? ⟨0, 0, none⟩ = some (.int .i64 0) ∧ W.cell? ⟨0, 1, none⟩ = some (.int .i64 1) ∧ W.cell? ⟨0, 2, none⟩ = some (.int .i64 2) := by
  obtain ⟨ps, ⟨g, t, cs, fuel, p, q, hg, ht, hvar, hd, _, _⟩, _⟩ := h
  obtain rfl := Option.some.inj (allN.symm.trans hg)
  obtain rfl := Option.some.inj (allT.symm.trans ht)
  obtain ⟨xs, n, _, hx, hlen, hxl, hf⟩ := DataW.trod_array Tryd.underlying28 hd
  rw [cells_3i] at hlen
  obtain ⟨hx1, _⟩ := Prod.mk.inj hx
  have hm : xs.map (·.1) = [.lit (.int .i64 0), .lit (.int .i64 1), .lit (.int .i64 2)] := by
    unfold Rows.laid_swath_series_all at hx1
    simpa using hx1.symm
  have one : ∀ (i : Nat) (k : Int), i < 3 → (xs.map (·.1))[i]? = some (.lit (.int .i64 k)) → cs[i]? = some (.int .i64 k) := by
    intro i k hi hk
    have h1 := hf i hi
    rw [cells_1i, Nat.mul_one] at h1
    rw [List.getElem?_map] at hk
    cases hxi : xs[i]? with
    | none => rw [hxi] at hk; cases hk
    | some x =>
      rw [hxi] at hk h1
      obtain ⟨s, hcs, hxx, _⟩ := DataW.trod_int Tryd.underlying3 h1
      simp only [Option.map_some, Option.some.injEq] at hk
      rw [hxx] at hk
      have hsk : s = k := by simpa using hk
      subst hsk
      have := congrArg (fun l : List Value => l[0]?) hcs
      simp only [List.getElem?_take, List.getElem?_drop] at this
      simpa using this
  have c0 := one 0 0 (by decide) (by rw [hm]; rfl)
  have c1 := one 1 1 (by decide) (by rw [hm]; rfl)
  have c2 := one 2 2 (by decide) (by rw [hm]; rfl)
  have v0 := World.var?_cell hg hvar 0
  have v1 := World.var?_cell hg hvar 1
  have v2 := World.var?_cell hg hvar 2
  rw [c0] at v0
  rw [c1] at v1
  rw [c2] at v2
  exact ⟨v0, v1, v2⟩
/-- A world in which the variable lies as the text lays it. -/
noncomputable def laidWorld (os : Os) : World :=
  let w0 := World.holding Tryd.prog os ⟨#[], #[], []⟩
  { w0 with heap := w0.heap.modify 0 fun
      | .cells _ t frozen => .cells #[.int .i64 0, .int .i64 1, .int .i64 2] t frozen
      | o => o }
end Go.Proofs.YthgbincoppnpgaaDoor
namespace Go.Proofs.YthgbincoppnpgaaDoor.SeriesNormal
open Go.ChangeShapes Go.WideShapes Go.ChangeAt Go Go.RowKit Go.Ab Go.Sr Go.Proofs.YthgbincoppnpgaaDoor
set_option maxRecDepth 100000
theorem walk {W : World} (hL : laidMet Tryd.prog [("swath/series.all", Rows.laid_swath_series_all)] W) (nm : ByteArray) (a : Option Addr) (l : List Ep) (cap : Nat) (hnm : nm.size ≤ maxLen) (hcap : l.length ≤ cap) (hcm : cap ≤ maxLen) (hS : SlX W a (flatE l)) (hz : a = none → cap = 0) : Calls Tryd.prog 3 #[.agg #[.string nm, .slice a l.length cap]] W fun e w' => e = .returned (.bool true) ∧ Below W.heap.size W w' := by
  simp only [maxLen] at hnm hcm
  by_cases hx : fewS nm.size l.length = true ∧ srE nm.data.toList l = 0
  · obtain ⟨g0, g1, g2⟩ := cell_of_laid hL
    have hr := srE_right hx.2
    have hb := of_decide_eq_true hx.1
    exact glueK (us := []) rfl hS hcap hz hr.1.n1 g0 g1 g2 (SnL_y nm (by omega) (by omega) hx.1 hr.1 hr.2 hx.2)
  · exact glueS (us := []) rfl hS hcap hz fun v m0 h => SnL_ne nm h (by omega) (by omega) hx
theorem laid_met (os : Os) (args : Array Value) : laidMet Tryd.prog [("swath/series.all", Rows.laid_swath_series_all)] ((laidWorld os).forCall (fun _ _ => 0) ⟨#[], args, []⟩).memory :=
  laidMet_of_run (ps := [.cell 0 0, .cell 0 1, .cell 0 2]) 8 (by kernel_rfl) (by kernel_rfl) (by kernel_rfl)
set_option maxRecDepth 100000 in
theorem lifted (os : Os) (started : os.Started) (H : Type) (enc : TypeId × Value → H) :
    ReturnsInHanded {} Tryd.checked os 3 .any (fun w args => (Rows.seriesNormalSpec.pre enc Tryd.prog Tryd.f3 Rows.seriesNormalRow.domain false w args ∧ laidMet Tryd.prog Rows.seriesNormalRow.laid w) ∧ sizedMet enc Tryd.prog Tryd.f3 (OpenSpec.ofChange Rows.seriesNormalSpec) false w args)
      (Rows.seriesNormalSpec.post enc Tryd.prog Tryd.f3 false true false false) := by
  refine returnsInHanded_of_change_and (C := Tryd.checked) (X := fun w _ => laidMet Tryd.prog Rows.seriesNormalRow.laid w) (fun _ _ _ hh h => h.of_heap hh) own started (by kernel_rfl) Tryd.func3
    (ChangeSpec.witness_at (enc := enc) (C := Tryd.checked) (os := os) (X := fun w _ => laidMet Tryd.prog Rows.seriesNormalRow.laid w) false (laidWorld os) #[.agg #[.string ⟨#[]⟩, .slice none 0 0]] 8 rfl (by kernel_rfl) (by kernel_rfl) (by kernel_rfl) (by kernel_rfl) (by kernel_rfl) (laid_met os _)) ?_
  intro W base args ds gs before hval0 hW hcnd _ hL _
  have hval : ∀ (j : Nat) t v, Tryd.f3.params[j]? = some t → args[j]? = some v → Value.okWide Tryd.prog W .any base t v := hval0
  have hW' := hW
  obtain ⟨p, q, hA0, hV, rfl, hfz, hnd⟩ := hW
  have hA : DataW.TrodAll enc Tryd.prog W 0 (fun _ => true) true Tryd.f3.params.toList args.toList ds p := hA0
  rw [Tryd.params3] at hA hval
  obtain ⟨v0, vs0, d0, ds0, p0, q0, hargs, rfl, rfl, h0, r0⟩ := trodAll_cons hA
  obtain ⟨rfl, rfl, rfl⟩ := trodAll_nil r0
  obtain rfl : args = #[v0] := by cases args; simp_all
  obtain ⟨rfl, rfl⟩ := trodVars_none hV
  clear hA0 hval0
  have hlt := hW'.lt
  have g0 := h0
  obtain ⟨nm0, a0, l0, cap0, rfl, hnm0, hcap0, hcm0, hS0, hz0⟩ := open_S (hval 0 24 v0 rfl rfl) h0
  simp only [List.append_nil] at hW' hlt ⊢
  refine (walk hL nm0 a0 l0 cap0 hnm0 hcap0 hcm0 hS0 hz0).mono fun e W' ⟨he, hb⟩ => ?_
  subst he
  have stay : ∀ (t : TypeId) v d ps (sp : Nat → Bool), Tryd.prog.readableRec t = true → t < Tryd.prog.types.size → DataW.Trod enc Tryd.prog W 0 (fun _ => true) true t v d ps → (∀ x ∈ ps, x.block < W.heap.size) → (∀ x ∈ ps, sp x.block = true) → DataW.Trod enc Tryd.prog W' 0 sp true t v d ps :=
    fun t v d ps sp hr ht h hx hs => Go.WideElems.Trod_stays laid hr ht h (fun x hxp => hb.same (hx x hxp)) hs
  exact ⟨_, rfl, post_below (pa := p0 ++ []) (pv := []) hW' (fun _ _ _ => trodAll_mk1 (shut_bool Tryd.underlying4 true)) (fun sp hs => (trodAll_cons_mk (stay 24 _ _ _ sp (by kernel_rfl) (of_decide_eq_true (by kernel_rfl)) g0 (fun x hx => hlt x (by simp [hx])) (fun x hx => hs x (by simp [hx]))) (trodAll_mk0))) (fun _ _ => rfl) (by simp)
    hb (ok_one (by kernel_rfl) rfl (okWide_bool_mk Tryd.underlying4 true))⟩

theorem over : Rows.seriesNormalRow.holds Tryd.pinned (OpenSpec.ofChange Rows.seriesNormalSpec) :=
  OpenClaim.holds_of_wide 3 Tryd.f3 rfl rfl rfl rfl rfl rfl rfl ⟨rfl, rfl, rfl, rfl, rfl⟩ rfl rfl rfl rfl rfl (by kernel_rfl) Tryd.func3 (by kernel_rfl)
    (of_decide_eq_true (by kernel_rfl)) (by unfold Func.isWrapper; first | (rw [if_pos (by decide +kernel)]; kernel_rfl) | (rw [if_neg (by decide +kernel)]; exact ⟨rfl, rfl⟩))
    (fun os started H enc _ => lifted os started H enc)

theorem plain_par (j : Nat) (t : TypeId) (ht : Tryd.f3.params[j]? = some t) : Tryd.prog.wantsStandIn t = false := by
  rw [Tryd.params3] at ht
  match j, ht with
  | 0, ht => cases ht; exact (show Tryd.prog.wantsStandIn _ = false by kernel_rfl)
  | j + 1, ht => simp at ht
/-- The statement: the tied card. -/
theorem proved : Rows.SeriesNormalCardSaid :=
  Claim7.holds_tied_plain_at .later [] [.widerDeep] true (true, "8969422fb97db3702c4520d9637b9f7b9e0738f6e0149eba45d89b934ac60878") false
    over (fun _ h => by cases h) (by kernel_rfl) (fun _ h => by cases h) seriesNormal_row_tie rfl ⟨rfl, rfl⟩ (by kernel_rfl) rfl
    (fun f fn hf hfn => by
      obtain rfl : f = 3 := Option.some.inj ((show Tryd.prog.funcNamed "swath/swathlaw08.SeriesNormal" = some 3 by kernel_rfl).symm.trans hf) |>.symm
      obtain rfl : fn = Tryd.f3 := (Option.some.inj (Tryd.func3.symm.trans hfn)).symm
      exact ⟨by kernel_rfl, plain_par⟩)
    (by kernel_rfl)
#print axioms proved
end Go.Proofs.YthgbincoppnpgaaDoor.SeriesNormal
end
