/- Between vectors: contracts. -/
import Derived.Test.Ythpjhpfebjjanaa02x
import Derived.Test.Ythpjhpfebjjanaa02Gl
import Derived.Test.YthpjhpfebjjanaaAbJ
import Derived.Test.YthpjhpfebjjanaaAbD
import Derived.Test.YthpjhpfebjjanaaLs
set_option linter.unusedSimpArgs false
set_option linter.unusedVariables false
section
namespace Go.Proofs.Ythpjhpfebjjanaa
open Go.RowKit Go.Ob

/-- The states as they really were. -/
structure Mv (l l' : List St) : Prop where
  len : l'.length = l.length
  t : ∀ k, k < l.length → (at_ l' k).t = (at_ l k).t
  x : ∀ k, k < l.length → -(at_ l k).e ≤ (at_ l' k).x - (at_ l k).x ∧ (at_ l' k).x - (at_ l k).x ≤ (at_ l k).e
  y : ∀ k, k < l.length → -(at_ l k).e ≤ (at_ l' k).y - (at_ l k).y ∧ (at_ l' k).y - (at_ l k).y ≤ (at_ l k).e
  z : ∀ k, k < l.length → -(at_ l k).e ≤ (at_ l' k).z - (at_ l k).z ∧ (at_ l' k).z - (at_ l k).z ≤ (at_ l k).e
theorem ax_in {a a' err over D d : Int} (ho : 1 ≤ over) (h : a - err ≤ a' ∧ a' ≤ a + err) (hd : -D ≤ d ∧ d ≤ D) : dn a (err + D * over) over ≤ rd a' over + d ∧ rd a' over + d ≤ up a (err + D * over) over := by
  unfold dn up rd
  have h2 : (0 : Int) < 2 * over := by omega
  have q1 := Int.ediv_mul_le (2 * a' + over) (show 2 * over ≠ 0 by omega)
  have q2 := Int.lt_ediv_add_one_mul_self (2 * a' + over) h2
  have r1 := Int.ediv_mul_le (-(a + (err + D * over))) (show over ≠ 0 by omega)
  have s1 := Int.ediv_mul_le (a - (err + D * over)) (show over ≠ 0 by omega)
  generalize (2 * a' + over) / (2 * over) = q at *
  generalize -(a + (err + D * over)) / over = r at *
  generalize (a - (err + D * over)) / over = s at *
  rw [show q * (2 * over) = 2 * (q * over) by rw [Int.mul_left_comm]] at q1
  rw [show (q + 1) * (2 * over) = 2 * (q * over) + 2 * over by rw [Int.add_mul, Int.mul_left_comm, Int.one_mul]] at q2
  constructor
  · apply Classical.byContradiction
    intro hn
    have h3 : q + 1 - D ≤ s := by omega
    have h4 := Int.mul_le_mul_of_nonneg_right h3 (show 0 ≤ over by omega)
    rw [Int.sub_mul, Int.add_mul, Int.one_mul] at h4
    omega
  · apply Classical.byContradiction
    intro hn
    have h3 : -q - D + 1 ≤ r := by omega
    have h4 := Int.mul_le_mul_of_nonneg_right h3 (show 0 ≤ over by omega)
    rw [Int.add_mul, Int.sub_mul, Int.neg_mul, Int.one_mul] at h4
    omega
theorem idx_mv {bd : Int} {l l' : List St} (h : Mv l l') (hR : Right bd l) {t : Int} (h1 : t ≤ lastT l) : idx l' t = idx l t := by
  have hk := idx_lt hR h1
  refine idx_of l' t (idx l t) (by rw [h.len]; omega) (fun k hk' => ?_) (fun _ => ?_)
  · rw [h.t k (by omega)]
    exact idx_take l t k hk'
  · rw [h.t _ hk]
    exact idx_stop l t hk
theorem mixw_in {u u' v v' e f s t : Int} (hu : -e ≤ u' - u ∧ u' - u ≤ e) (hv : -f ≤ v' - v ∧ v' - v ≤ f) (hs : 0 ≤ s) (ht : 0 ≤ t) : u * s + v * t - (e * s + f * t) ≤ u' * s + v' * t ∧ u' * s + v' * t ≤ u * s + v * t + (e * s + f * t) := by
  have a1 := Int.mul_le_mul_of_nonneg_right hu.1 hs
  have a2 := Int.mul_le_mul_of_nonneg_right hu.2 hs
  have b1 := Int.mul_le_mul_of_nonneg_right hv.1 ht
  have b2 := Int.mul_le_mul_of_nonneg_right hv.2 ht
  rw [Int.neg_mul, Int.sub_mul] at a1 b1
  rw [Int.sub_mul] at a2 b2
  omega
/-- A tick of a state. -/
def onSt (l : List St) (t : Int) : Prop := ∃ k, k < l.length ∧ (at_ l k).t = t
theorem on_idx {bd : Int} {l : List St} (hR : Right bd l) {t : Int} (h1 : t ≤ lastT l) : onSt l t ↔ (at_ l (idx l t)).t = t := by
  have hk := idx_lt hR h1
  constructor
  · rintro ⟨k, hkl, ht⟩
    have h2 := idx_stop l t hk
    have h3 : ¬ k < idx l t := fun h => by have := idx_take l t k h; omega
    have h4 := hR.le (idx l t) k (by omega) hkl
    omega
  · intro h
    exact ⟨_, hk, h⟩
/-- The real places lie in the box. -/
theorem bx_mv {bd : Int} {l l' : List St} (h : Mv l l') (hR : Right bd l) {t : Int} (h0 : frstT l ≤ t) (h1 : t ≤ lastT l) (a b c : Int)
    (hs : onSt l t → a = 0 ∧ b = 0 ∧ c = 0) (hn : ¬ onSt l t → (-bd ≤ a ∧ a ≤ bd) ∧ (-bd ≤ b ∧ b ≤ bd) ∧ -bd ≤ c ∧ c ≤ bd) :
    ((bx bd l t).l0 ≤ (nom l' t).x + a ∧ (nom l' t).x + a ≤ (bx bd l t).h0) ∧ ((bx bd l t).l1 ≤ (nom l' t).y + b ∧ (nom l' t).y + b ≤ (bx bd l t).h1) ∧ (bx bd l t).l2 ≤ (nom l' t).z + c ∧ (nom l' t).z + c ≤ (bx bd l t).h2 := by
  have hk := idx_lt hR h1
  have ho := on_idx hR h1
  have hi := idx_mv h hR h1
  unfold bx nom bxP nomP
  by_cases hf : (at_ l (idx l t)).t = t
  · have e : pt l t = ⟨(at_ l (idx l t)).x, (at_ l (idx l t)).y, (at_ l (idx l t)).z, (at_ l (idx l t)).e, 1, false⟩ := by unfold pt; rw [if_pos hf]
    have hf' : (at_ l' (idx l' t)).t = t := by rw [hi, h.t _ hk]; exact hf
    have e' : pt l' t = ⟨(at_ l' (idx l t)).x, (at_ l' (idx l t)).y, (at_ l' (idx l t)).z, (at_ l' (idx l t)).e, 1, false⟩ := by unfold pt; rw [if_pos hf', hi]
    obtain ⟨rfl, rfl, rfl⟩ := hs (ho.2 hf)
    rw [e, e']
    have ho' : offP bd ⟨(at_ l (idx l t)).x, (at_ l (idx l t)).y, (at_ l (idx l t)).z, (at_ l (idx l t)).e, 1, false⟩ = (at_ l (idx l t)).e + 0 * 1 := by simp [offP]
    have hx := h.x _ hk
    have hy := h.y _ hk
    have hz := h.z _ hk
    rw [ho']
    dsimp only
    exact ⟨ax_in (by omega) (by omega) (by omega), ax_in (by omega) (by omega) (by omega), ax_in (by omega) (by omega) (by omega)⟩
  · have hkp := idx_pos h0 hk hf
    have hst := idx_stop l t hk
    have htk := idx_take l t (idx l t - 1) (by omega)
    have hf' : ¬ (at_ l' (idx l' t)).t = t := by rw [hi, h.t _ hk]; exact hf
    have hn' := hn (fun g => hf (ho.1 g))
    rw [pt_bent hf, pt_bent hf', hi]
    have t1 := h.t _ hk
    have t2 := h.t (idx l t - 1) (by omega)
    have hx := h.x _ hk
    have hy := h.y _ hk
    have hz := h.z _ hk
    have hx' := h.x (idx l t - 1) (by omega)
    have hy' := h.y (idx l t - 1) (by omega)
    have hz' := h.z (idx l t - 1) (by omega)
    generalize at_ l (idx l t) = p at *
    generalize at_ l (idx l t - 1) = q at *
    generalize at_ l' (idx l t) = p' at *
    generalize at_ l' (idx l t - 1) = q' at *
    unfold ptB offP
    simp only [if_true]
    rw [t1, t2]
    have hs0 : 0 ≤ p.t - q.t - (t - q.t) := by omega
    have ht0 : 0 ≤ t - q.t := by omega
    exact ⟨ax_in (by omega) (mixw_in hx' hx hs0 ht0) hn'.1, ax_in (by omega) (mixw_in hy' hy hs0 ht0) hn'.2.1, ax_in (by omega) (mixw_in hz' hz hs0 ht0) hn'.2.2⟩
theorem frst_mv {l l' : List St} (h : Mv l l') (hn : 2 ≤ l.length) : frstT l' = frstT l ∧ lastT l' = lastT l := by
  unfold frstT lastT
  rw [h.len]
  exact ⟨h.t 0 (by omega), h.t _ (by omega)⟩
theorem sqm {a b : Int} (h0 : 0 ≤ a) (h : a ≤ b) : a * a ≤ b * b := Int.mul_le_mul h h h0 (by omega)
theorem near_in {lo hi x p : Int} (h0 : lo ≤ p) (h1 : p ≤ hi) : near lo hi x * near lo hi x ≤ (p - x) * (p - x) ∧ (p - x) * (p - x) ≤ far lo hi x * far lo hi x := by
  have a := imx_spec (lo - x) (x - hi)
  have b := imx_spec (imx (lo - x) (x - hi)) 0
  have c := imx_spec (hi - x) (x - lo)
  have e : (x - p) * (x - p) = (p - x) * (p - x) := by rw [show x - p = -(p - x) by omega, Int.neg_mul_neg]
  unfold near far
  generalize imx (lo - x) (x - hi) = u at *
  generalize imx u 0 = v at *
  generalize imx (hi - x) (x - lo) = w at *
  by_cases h : 0 ≤ p - x
  · exact ⟨sqm (by omega) (by omega), sqm h (by omega)⟩
  · rw [← e]
    exact ⟨sqm (by omega) (by omega), sqm (by omega) (by omega)⟩
end Go.Proofs.Ythpjhpfebjjanaa
end

section
namespace Go.Proofs.Ythpjhpfebjjanaa
open Go Go.RowKit Go.Ob Go.Ab
set_option maxRecDepth 100000
set_option maxHeartbeats 4000000
attribute [local irreducible] OQ OW AL AW AD AF SW
theorem eqr_t44 (d : Nat) (w : World) (a0 a1 b0 b1 : Int) : (Op.equalIn (d + 2) 44 (.agg #[.int .i64 a0, .int .i64 a1]) (.agg #[.int .i64 b0, .int .i64 b1])).run Try.prog w = .ok (decide ((a0, a1) = (b0, b1))) w := by
  unfold Op.equalIn
  simp [Try.underlying44, run_underlying, go_sem, List.forIn_cons]
  by_cases h0 : a0 = b0
  case neg => simp [h0]
  by_cases h1 : a1 = b1
  case neg => simp [h0, h1]
  simp [h0, h1]
theorem eql_t44 {t : T} {m : Mem} {dst : Option Tmp} {rt ty' : TypeId} {pos : String} {after : Array Edge} {guard : Option (Nat × Bool)} {x y : Operand} {a0 a1 b0 b1 : Int} (hx : t.ev x = (.agg #[.int .i64 a0, .int .i64 a1])) (hy : t.ev y = (.agg #[.int .i64 b0, .int .i64 b1])) :
    OQ Try.prog ⟨dst, .binOp .eql 44 x y ty', rt, pos, after, guard⟩ t m (.bool (decide ((a0, a1) = (b0, b1)))) := by
  refine OQ.closed (fun cs b => by simp) (fun z hz => ?_) (fun w => ?_) rfl
  · simp [Op.operands] at hz
    rcases hz with rfl | rfl
    · rw [hx]; rfl
    · rw [hy]; rfl
  · have e := eqr_t44 9998 w a0 a1 b0 b1
    have hgt : (Try.prog).eqGuardType (Try.prog).depth 44 = false := by kernel_rfl
    have hg : (eqGuard .eql 44 x y (t.ev x) (t.ev y)).run Try.prog w = .ok () w := by
      rw [hx, hy]
      simp [eqGuard, program, Sem.run, Sem.run_bind, hgt]
    rw [hx, hy] at hg
    simp only [execOp, hx, hy, Sem.run_bind, hg, Result.andThen_ok, binOp, Op.equal, Op.maxDepth]
    erw [e]
    simp [go_sem]
theorem nel_t44 {t : T} {m : Mem} {dst : Option Tmp} {rt ty' : TypeId} {pos : String} {after : Array Edge} {guard : Option (Nat × Bool)} {x y : Operand} {a0 a1 b0 b1 : Int} (hx : t.ev x = (.agg #[.int .i64 a0, .int .i64 a1])) (hy : t.ev y = (.agg #[.int .i64 b0, .int .i64 b1])) :
    OQ Try.prog ⟨dst, .binOp .neq 44 x y ty', rt, pos, after, guard⟩ t m (.bool (!(decide ((a0, a1) = (b0, b1))))) := by
  refine OQ.closed (fun cs b => by simp) (fun z hz => ?_) (fun w => ?_) rfl
  · simp [Op.operands] at hz
    rcases hz with rfl | rfl
    · rw [hx]; rfl
    · rw [hy]; rfl
  · have e := eqr_t44 9998 w a0 a1 b0 b1
    have hgt : (Try.prog).eqGuardType (Try.prog).depth 44 = false := by kernel_rfl
    have hg : (eqGuard .neq 44 x y (t.ev x) (t.ev y)).run Try.prog w = .ok () w := by
      rw [hx, hy]
      simp [eqGuard, program, Sem.run, Sem.run_bind, hgt]
    rw [hx, hy] at hg
    simp only [execOp, hx, hy, Sem.run_bind, hg, Result.andThen_ok, binOp, Op.equal, Op.maxDepth]
    erw [e]
    simp [go_sem]
theorem eqr_t45 (d : Nat) (w : World) (a0 a1 a2 a3 a4 a5 b0 b1 b2 b3 b4 b5 : Int) : (Op.equalIn (d + 3) 45 (.agg #[.int .i64 a0, .int .i64 a1, .int .i64 a2, .int .i64 a3, .int .i64 a4, .int .i64 a5]) (.agg #[.int .i64 b0, .int .i64 b1, .int .i64 b2, .int .i64 b3, .int .i64 b4, .int .i64 b5])).run Try.prog w = .ok (decide ((a0, a1, a2, a3, a4, a5) = (b0, b1, b2, b3, b4, b5))) w := by
  have z44 : (Go.sizeOf 44).run Try.prog w = .ok 2 w := by go_simp
  unfold Op.equalIn
  simp [Try.underlying45, run_underlying, go_sem, List.range', List.forIn_cons, eqr_t44, z44]
  by_cases h0 : a0 = b0
  case neg => simp [h0]
  by_cases h1 : a1 = b1
  case neg => simp [h0, h1]
  by_cases h2 : a2 = b2
  case neg => simp [h0, h1, h2]
  by_cases h3 : a3 = b3
  case neg => simp [h0, h1, h2, h3]
  by_cases h4 : a4 = b4
  case neg => simp [h0, h1, h2, h3, h4]
  by_cases h5 : a5 = b5
  case neg => simp [h0, h1, h2, h3, h4, h5]
  simp [h0, h1, h2, h3, h4, h5]
theorem eql_t45 {t : T} {m : Mem} {dst : Option Tmp} {rt ty' : TypeId} {pos : String} {after : Array Edge} {guard : Option (Nat × Bool)} {x y : Operand} {a0 a1 a2 a3 a4 a5 b0 b1 b2 b3 b4 b5 : Int} (hx : t.ev x = (.agg #[.int .i64 a0, .int .i64 a1, .int .i64 a2, .int .i64 a3, .int .i64 a4, .int .i64 a5])) (hy : t.ev y = (.agg #[.int .i64 b0, .int .i64 b1, .int .i64 b2, .int .i64 b3, .int .i64 b4, .int .i64 b5])) :
    OQ Try.prog ⟨dst, .binOp .eql 45 x y ty', rt, pos, after, guard⟩ t m (.bool (decide ((a0, a1, a2, a3, a4, a5) = (b0, b1, b2, b3, b4, b5)))) := by
  refine OQ.closed (fun cs b => by simp) (fun z hz => ?_) (fun w => ?_) rfl
  · simp [Op.operands] at hz
    rcases hz with rfl | rfl
    · rw [hx]; rfl
    · rw [hy]; rfl
  · have e := eqr_t45 9997 w a0 a1 a2 a3 a4 a5 b0 b1 b2 b3 b4 b5
    have hgt : (Try.prog).eqGuardType (Try.prog).depth 45 = false := by kernel_rfl
    have hg : (eqGuard .eql 45 x y (t.ev x) (t.ev y)).run Try.prog w = .ok () w := by
      rw [hx, hy]
      simp [eqGuard, program, Sem.run, Sem.run_bind, hgt]
    rw [hx, hy] at hg
    simp only [execOp, hx, hy, Sem.run_bind, hg, Result.andThen_ok, binOp, Op.equal, Op.maxDepth]
    erw [e]
    simp [go_sem]
theorem nel_t45 {t : T} {m : Mem} {dst : Option Tmp} {rt ty' : TypeId} {pos : String} {after : Array Edge} {guard : Option (Nat × Bool)} {x y : Operand} {a0 a1 a2 a3 a4 a5 b0 b1 b2 b3 b4 b5 : Int} (hx : t.ev x = (.agg #[.int .i64 a0, .int .i64 a1, .int .i64 a2, .int .i64 a3, .int .i64 a4, .int .i64 a5])) (hy : t.ev y = (.agg #[.int .i64 b0, .int .i64 b1, .int .i64 b2, .int .i64 b3, .int .i64 b4, .int .i64 b5])) :
    OQ Try.prog ⟨dst, .binOp .neq 45 x y ty', rt, pos, after, guard⟩ t m (.bool (!(decide ((a0, a1, a2, a3, a4, a5) = (b0, b1, b2, b3, b4, b5))))) := by
  refine OQ.closed (fun cs b => by simp) (fun z hz => ?_) (fun w => ?_) rfl
  · simp [Op.operands] at hz
    rcases hz with rfl | rfl
    · rw [hx]; rfl
    · rw [hy]; rfl
  · have e := eqr_t45 9997 w a0 a1 a2 a3 a4 a5 b0 b1 b2 b3 b4 b5
    have hgt : (Try.prog).eqGuardType (Try.prog).depth 45 = false := by kernel_rfl
    have hg : (eqGuard .neq 45 x y (t.ev x) (t.ev y)).run Try.prog w = .ok () w := by
      rw [hx, hy]
      simp [eqGuard, program, Sem.run, Sem.run_bind, hgt]
    rw [hx, hy] at hg
    simp only [execOp, hx, hy, Sem.run_bind, hg, Result.andThen_ok, binOp, Op.equal, Op.maxDepth]
    erw [e]
    simp [go_sem]

theorem Mod_q (n b : Int) (hb : 0 < b ∧ b ≤ 9000000000000000000) (m : Mem) : PCalls Try.prog 36 [.int .i64 n, .int .i64 b] m (.int .i64 (n % b)) := by
  have h1 := Int.tmod_eq_emod (a := n) (b := b)
  have h2 := Int.emod_nonneg n (by omega : b ≠ 0)
  have h3 := Int.emod_lt_of_pos n hb.1
  have h4 : n.tmod b = n % b ∨ n.tmod b = n % b - b := by
    rw [h1]
    split
    · exact .inl (by omega)
    · exact .inr (by omega)
  refine PCalls.any ?_ rfl rfl m
  refine PCalls.enter (t := [.int .i64 n, .int .i64 b, undef, undef, undef, undef, undef, undef, undef, undef, undef, undef, undef, undef]) Try.func36 rfl (ro_nil) rfl fun E => ?_
  repeat' (first
    | with_reducible refine Then.n ?_
    | with_reducible refine Then.r ?_
    | with_reducible refine Then.x ?_
    | with_reducible refine InB.n ?_
    | with_reducible refine InB.r ?_
    | with_reducible refine InB.hit ?_
    | with_reducible refine InB.miss (by decide) ?_
    | ((with_reducible refine AL.on ?_); first
      | ((first | ((with_reducible refine AL.k_move ?_); first | (refine AL.q rfl (OQ.move (by conv => lhs; whnf)) ?_)) | ((with_reducible refine AL.k_assign ?_); first | (refine AL.q rfl (OQ.assign (by conv => lhs; whnf)) ?_)) | ((with_reducible refine AL.k_binOp ?_); first | refine AL.q rfl (OQ.rem rfl rfl (by omega)) ?_ | refine AL.q rfl (OQ.lss rfl rfl) ?_ | refine AL.q rfl (OQ.addi rfl rfl (by omega)) ?_ | refine AL.q rfl (OQ.add rfl rfl) ?_)); (conv => (arg 5; try tactic => exact nrm)))
      | refine AL.nil ?_)
    | ((with_reducible refine AW.on ?_); first
      | refine AW.seq ?_
      | refine AW.skip ?_
      | refine AW.exit ?_
      | refine AW.ret ?_
      | refine AW.block ?_
      | refine AW.region ?_
      | (refine AW.conds rfl (fun hc => ?_) (fun hc => ?_) <;> (try simp only [decide_eq_true_eq, decide_eq_false_iff_not, Bool.not_true, Bool.not_false, Bool.not_eq_true', Bool.not_eq_false', Int.not_lt, Int.not_le, Classical.not_not, ne_eq] at hc) <;> first | (exfalso; contradiction; done) | skip))
    | ((with_reducible refine FinP.on ?_); (first | refine FinP.ret (.tmp (by conv => lhs; whnf) .nil) ?_ rfl | refine FinP.end (.tmp (by conv => lhs; whnf) .nil) ?_ rfl); (try simp only [pack, List.drop, List.take]); all_goals (congr 1; omega)))
theorem PCalls.capO {f : FuncId} {nm : ByteArray} {bd : Int} {b n c : Nat} {us : List Value} {m : Mem} {v : Value} (h : PCalls Try.prog f (obW nm bd (.slice (some ⟨b, 0, none⟩) n INF) :: us) m v) : PCalls Try.prog f (obW nm bd (.slice (some ⟨b, 0, none⟩) n c) :: us) m v := by
  intro ρ args' w hdom hargs hm
  refine h ρ args' w hdom ?_ hm
  obtain ⟨xs, e, hl, hg⟩ := hargs.tuple_inv
  cases e
  refine .tuple (by simpa using hl) fun i hi hi' => ?_
  match i with
  | 0 =>
    obtain ⟨u, e0, r0⟩ := hg 0 _ rfl
    rw [Array.getElem?_eq_getElem hi'] at e0
    cases e0
    exact obW_inf r0
  | i + 1 =>
    have hi0 : i < us.length := by simpa using hi
    obtain ⟨u, e0, r0⟩ := hg (i + 1) us[i] (by simp [hi0])
    rw [Array.getElem?_eq_getElem hi'] at e0
    cases e0
    simpa using r0
section
variable {m : Mem} {v : Value} {l : List St} {nm : ByteArray} {bd : Int}
theorem atE_of {t : Int} (he : (orbE nm.data.toList bd l).2 = 0) (h0 : frstT l ≤ t) (h1 : t ≤ lastT l) : atE nm.data.toList bd l t = 0 := by
  unfold atE
  rw [if_neg (by simp [he]), if_pos ⟨h0, h1⟩]
theorem NominalX_q (hS : SlB m v l) (ho : Ors nm l) (he : (orbE nm.data.toList bd l).2 = 0) (t : Int) (h0 : frstT l ≤ t) (h1 : t ≤ lastT l) : PCalls Try.prog 27 [obW nm bd v, .int .i64 t] m (.tuple #[p3V (nom l t), .int .i64 0]) :=
  of_sl hS ho rfl rfl fun w a cap hO => by
    have := Nominal_any nm bd t a cap l w hO
    unfold nomOr at this
    rw [atE_of he h0 h1] at this
    exact this
theorem BoxAtX_q (hS : SlB m v l) (ho : Ors nm l) (he : (orbE nm.data.toList bd l).2 = 0) (t : Int) (h0 : frstT l ≤ t) (h1 : t ≤ lastT l) : PCalls Try.prog 28 [obW nm bd v, .int .i64 t] m (.tuple #[bxV (bx bd l t), .int .i64 0]) :=
  of_sl hS ho rfl rfl fun w a cap hO => by
    have := BoxAt_any nm bd t a cap l w hO
    unfold bxOr at this
    rw [atE_of he h0 h1] at this
    exact this
theorem SquareAtX_q (hS : SlB m v l) (ho : Ors nm l) (he : (orbE nm.data.toList bd l).2 = 0) (t : Int) (h0 : frstT l ≤ t) (h1 : t ≤ lastT l) : PCalls Try.prog 38 [obW nm bd v, .int .i64 t, v3 0 0 0] m (.tuple #[.agg #[.int .i64 (sqLo (bx bd l t) 0 0 0), .int .i64 (sqHi (bx bd l t) 0 0 0)], .int .i64 0]) :=
  of_sl hS ho rfl rfl fun w a cap hO => by
    have := SquareAt_any nm bd t 0 0 0 a cap l w hO
    have hp : placeE 0 0 0 = 0 := by decide
    have e : sqE nm.data.toList bd l t 0 0 0 = 0 := by
      unfold sqE
      rw [atE_of he h0 h1, hp]
      rfl
    unfold sqOr at this
    rw [e] at this
    exact this
end
theorem Pass_c : ACalls Try.prog 69 [] [] (obW pName 2 (.slice (some ⟨0, 0, none⟩) 2 2)) [some ⟨flatS passL, true, 5⟩] := by
  refine ACalls.enter (t := [undef, undef, undef, undef, undef, undef, undef]) Try.func69 rfl rfl fun E hE => ?_
  repeat' (first
    | with_reducible refine Then.n ?_
    | with_reducible refine Then.r ?_
    | with_reducible refine Then.x ?_
    | with_reducible refine InB.n ?_
    | with_reducible refine InB.r ?_
    | with_reducible refine InB.hit ?_
    | with_reducible refine InB.miss (by decide) ?_
    | ((with_reducible refine AL.on ?_); first
      | ((first | first | refine AL.q rfl (OQ.buildS (ty := 26) (zs := [.int .i64 0, .int .i64 0, .int .i64 0]) (pls := [(0, 1), (1, 1), (2, 1)]) (by kernel_rfl) rfl (by kernel_rfl) rfl rfl rfl) ?_ | refine AL.q rfl (OQ.buildS (ty := 55) (zs := [.int .i64 0, .int .i64 0, .int .i64 0, .int .i64 0, .int .i64 0]) (pls := [(0, 1), (1, 3), (4, 1)]) (by kernel_rfl) rfl (by kernel_rfl) rfl rfl rfl) ?_ | refine AL.q rfl (OQ.buildS (ty := 24) (zs := [.string ⟨#[]⟩, .int .i64 0, .slice none 0 0]) (pls := [(0, 1), (1, 1), (2, 1)]) (by kernel_rfl) rfl (by kernel_rfl) rfl rfl rfl) ?_); (conv => (arg 5; try tactic => exact nrm)))
      | ((first | ((with_reducible refine AL.k_alloc ?_); first | refine AL.w rfl (OW.alloc (ty := 24) (z := [.string ⟨#[]⟩, .int .i64 0, .slice none 0 0]) (by kernel_rfl) rfl) ?_) | ((with_reducible refine AL.k_buildSlice ?_); first | refine AL.w rfl (OW.buildSl (ty := 22) (zs := [.int .i64 0, .int .i64 0, .int .i64 0, .int .i64 0, .int .i64 0]) (n := 5) (g := true) (by kernel_rfl) (by kernel_rfl) rfl rfl rfl (by decide) (by decide) rfl rfl) ?_) | ((with_reducible refine AL.k_store ?_); first | (refine AL.w rfl (OW.store (ty := 24) (n := 3) rfl (by conv => lhs; whnf) rfl rfl (by kernel_rfl) rfl rfl (by decide) rfl (Nat.le_of_ble_eq_true rfl) (by intro r h; cases h)) ?_))); (conv => (arg 5; try tactic => exact nrm)); (conv => (arg 6; try tactic => exact nrm)))
      | refine AL.nil ?_)
    | ((with_reducible refine AW.on ?_); first
      | refine AW.seq ?_
      | refine AW.skip ?_
      | refine AW.exit ?_
      | refine AW.ret ?_
      | refine AW.block ?_
      | refine AW.region ?_
      | (refine AW.conds rfl (fun hc => ?_) (fun hc => ?_) <;> (try simp only [decide_eq_true_eq, decide_eq_false_iff_not, Bool.not_true, Bool.not_false, Bool.not_eq_true', Bool.not_eq_false', Int.not_lt, Int.not_le, Classical.not_not, ne_eq] at hc) <;> first | (exfalso; first | contradiction | (omega); done) | skip))
    | ((with_reducible refine FinA.on ?_); (refine FinA.keep 0 [1] (.inl rfl) (.cellN (n := 3) (by conv => lhs; whnf) (by kernel_rfl) (by kernel_rfl) rfl .nil) ?_ rfl (Nat.le_of_eq hE) rfl rfl ⟨⟨_, rfl, rfl, rfl, .inl ⟨rfl, rfl⟩⟩, trivial⟩; rfl)))
theorem flown_0 : PCalls Try.prog 67 [] [] (.bool true) := by
  have hb := boxAt_val
  have hr : (orbE pName.data.toList 2 passL).2 = 0 := by decide +kernel
  have ho : Ors pName passL := Ors.of_right (by decide) (orbE_right hr).1
  have hx : bx 2 passL 3 = ⟨11, 19, 2, 10, 96, 104⟩ := by
    have := hb.1
    unfold bxOr at this
    rwa [if_pos hb.2] at this
  have HB := fun (m : Mem) (b : Nat) (k : Blk) (h : m.at b = some k) (hc : k.cells = flatS passL) => BoxAtX_q (m := m) (.blk b k rfl h hc) ho hr 3 (by decide) (by decide)
  rw [hx] at HB
  have HB' := fun (m : Mem) (b : Nat) (k : Blk) (h : m.at b = some k) (hc : k.cells = flatS passL) => PCalls.capO (c := 2) (HB m b k h hc)
  refine PCalls.enter (t := [undef, undef, undef, undef, undef, undef, undef, undef, undef, undef, undef, undef, undef, undef, undef, undef, undef, undef]) Try.func67 rfl (ro_nil) rfl fun E => ?_
  repeat' (first
    | with_reducible refine Then.n ?_
    | with_reducible refine Then.r ?_
    | with_reducible refine Then.x ?_
    | with_reducible refine InB.n ?_
    | with_reducible refine InB.r ?_
    | with_reducible refine InB.hit ?_
    | with_reducible refine InB.miss (by decide) ?_
    | ((with_reducible refine AL.on ?_); first
      | (refine AL.gd rfl ?_; first | (refine AL.gskip rfl rfl ?_; (conv => (arg 5; try tactic => exact nrm))) | (refine AL.gs1 rfl rfl (fun hc => ?_) (fun hc => ?_) <;> (try simp only [decide_eq_true_eq, decide_eq_false_iff_not, Bool.not_true, Bool.not_false, Bool.not_eq_true', Bool.not_eq_false', Int.not_lt, Int.not_le, Classical.not_not, ne_eq] at hc) <;> first | (exfalso; first | contradiction | (omega); done) | (conv => (arg 5; try tactic => exact nrm))) | (refine AL.gs0 rfl rfl (fun hc => ?_) (fun hc => ?_) <;> (try simp only [decide_eq_true_eq, decide_eq_false_iff_not, Bool.not_true, Bool.not_false, Bool.not_eq_true', Bool.not_eq_false', Int.not_lt, Int.not_le, Classical.not_not, ne_eq] at hc) <;> first | (exfalso; first | contradiction | (omega); done) | (conv => (arg 5; try tactic => exact nrm))))
      | ((first | ((with_reducible refine AL.k_assign ?_); first | (refine AL.q rfl (OQ.assign (by conv => lhs; whnf)) ?_)) | ((with_reducible refine AL.k_move ?_); first | (refine AL.q rfl (OQ.move (by conv => lhs; whnf)) ?_)) | ((with_reducible refine AL.k_extract ?_); first | refine AL.q rfl (OQ.extract rfl rfl) ?_) | ((with_reducible refine AL.k_binOp ?_); first | refine AL.q rfl (OQ.eql rfl rfl) ?_ | refine AL.q rfl (eql_t45 rfl rfl) ?_) | ((with_reducible refine AL.k_load ?_); first | refine AL.q rfl (OQ.loadN (ty := 45) (n := 6) rfl (by kernel_rfl) (by kernel_rfl) rfl) ?_) | ((with_reducible refine AL.k_pick ?_); first | (refine AL.q rfl (OQ.pickT rfl (by with_reducible rfl) (by conv => lhs; whnf)) ?_) | (refine AL.q rfl (OQ.pickF rfl (by with_reducible rfl) (by conv => lhs; whnf)) ?_))); (conv => (arg 5; try tactic => exact nrm)))
      | ((first | ((with_reducible refine AL.k_build ?_); first | refine AL.q rfl (OQ.buildS (ty := 44) (zs := [.int .i64 0, .int .i64 0]) (pls := [(0, 1), (1, 1)]) (by kernel_rfl) rfl (by kernel_rfl) rfl rfl rfl) ?_ | refine AL.q rfl (OQ.buildA (ty := 45) (zs := [.int .i64 0, .int .i64 0, .int .i64 0, .int .i64 0, .int .i64 0, .int .i64 0]) (n := 2) (k := 3) (g := true) (by kernel_rfl) rfl (by kernel_rfl) rfl rfl rfl) ?_) | ((with_reducible refine AL.k_call ?_); first | refine AL.pcall (g := 28) rfl (by kernel_rfl) rfl (HB' _ 0 _ rfl rfl) ?_)); (conv => (arg 5; try tactic => exact nrm)))
      | ((first | ((with_reducible refine AL.k_call ?_); first | refine AL.acall (g := 69) rfl (by kernel_rfl) rfl (Pass_c) ?_) | ((with_reducible refine AL.k_alloc ?_); first | refine AL.w rfl (OW.alloc (ty := 45) (z := [.int .i64 0, .int .i64 0, .int .i64 0, .int .i64 0, .int .i64 0, .int .i64 0]) (by kernel_rfl) rfl) ?_) | ((with_reducible refine AL.k_store ?_); first | (refine AL.w rfl (OW.store (ty := 45) (n := 6) rfl (by conv => lhs; whnf) rfl rfl (by kernel_rfl) rfl rfl (by decide) rfl (Nat.le_of_ble_eq_true rfl) (by intro r h; cases h)) ?_))); (conv => (arg 5; try tactic => exact nrm)); (conv => (arg 6; try tactic => exact nrm)))
      | (refine AL.bs rfl (fun hc => ?_) (fun hc => ?_) <;> (fail_if_success (with_reducible exact lit_no hc)) <;> (try simp only [decide_eq_true_eq, decide_eq_false_iff_not, Bool.not_true, Bool.not_false, Bool.not_eq_true', Bool.not_eq_false', Int.not_lt, Int.not_le, Classical.not_not, ne_eq] at hc) <;> first | (exfalso; first | contradiction | (omega); done) | (conv => (arg 5; try tactic => exact nrm)))
      | refine AL.nil ?_)
    | ((with_reducible refine AW.on ?_); first
      | refine AW.seq ?_
      | refine AW.skip ?_
      | refine AW.exit ?_
      | refine AW.ret ?_
      | refine AW.block ?_
      | refine AW.region ?_
      | (refine AW.conds rfl (fun hc => ?_) (fun hc => ?_) <;> (try simp only [decide_eq_true_eq, decide_eq_false_iff_not, Bool.not_true, Bool.not_false, Bool.not_eq_true', Bool.not_eq_false', Int.not_lt, Int.not_le, Classical.not_not, ne_eq] at hc) <;> first | (exfalso; first | contradiction | (omega); done) | skip))
    | ((with_reducible refine FinP.on ?_); (first | refine FinP.ret (.tmp (by conv => lhs; whnf) .nil) ?_ rfl | refine FinP.end (.tmp (by conv => lhs; whnf) .nil) ?_ rfl); (try simp only [pack, List.drop, List.take]); all_goals (rfl)))
theorem flown_q (m : Mem) : PCalls Try.prog 67 [] m (.bool true) := PCalls.any flown_0 rfl rfl m
theorem Within_q (n lo hi : Int) (m : Mem) : PCalls Try.prog 22 [.int .i64 n, .int .i64 lo, .int .i64 hi] m (.bool (rngB n lo hi)) := PCalls.of_same rfl rfl fun w => rWithin_any n lo hi w
theorem inBox_q (x y z : Int) (b : Bx) (h0 : b.l0 ≤ x ∧ x ≤ b.h0) (h1 : b.l1 ≤ y ∧ y ≤ b.h1) (h2 : b.l2 ≤ z ∧ z ≤ b.h2) (m : Mem) : PCalls Try.prog 68 [v3 x y z, bxV b] m (.bool true) := by
  have W0 := fun m => Within_q x b.l0 b.h0 m
  have W1 := fun m => Within_q y b.l1 b.h1 m
  have W2 := fun m => Within_q z b.l2 b.h2 m
  rw [rngB_true.2 h0] at W0
  rw [rngB_true.2 h1] at W1
  rw [rngB_true.2 h2] at W2
  refine PCalls.any ?_ rfl rfl m
  refine PCalls.enter (t := [v3 x y z, bxV b, undef, undef, undef, undef, undef, undef, undef, undef, undef, undef, undef, undef, undef, undef, undef, undef, undef, undef, undef, undef, undef, undef, undef, undef, undef, undef, undef, undef, undef, undef, undef, undef, undef, undef]) Try.func68 rfl (ro_nil) rfl fun E => ?_
  repeat' (first
    | with_reducible refine Then.n ?_
    | with_reducible refine Then.r ?_
    | with_reducible refine Then.x ?_
    | with_reducible refine InB.n ?_
    | with_reducible refine InB.r ?_
    | with_reducible refine InB.hit ?_
    | with_reducible refine InB.miss (by decide) ?_
    | ((with_reducible refine AL.on ?_); first
      | (refine AL.gd rfl ?_; first | (refine AL.gskip rfl rfl ?_; (conv => (arg 5; try tactic => exact nrm))) | (refine AL.gs1 rfl rfl (fun hc => ?_) (fun hc => ?_) <;> (try simp only [decide_eq_true_eq, decide_eq_false_iff_not, Bool.not_true, Bool.not_false, Bool.not_eq_true', Bool.not_eq_false', Int.not_lt, Int.not_le, Classical.not_not, ne_eq] at hc) <;> first | (exfalso; first | contradiction | (omega); done) | (conv => (arg 5; try tactic => exact nrm))) | (refine AL.gs0 rfl rfl (fun hc => ?_) (fun hc => ?_) <;> (try simp only [decide_eq_true_eq, decide_eq_false_iff_not, Bool.not_true, Bool.not_false, Bool.not_eq_true', Bool.not_eq_false', Int.not_lt, Int.not_le, Classical.not_not, ne_eq] at hc) <;> first | (exfalso; first | contradiction | (omega); done) | (conv => (arg 5; try tactic => exact nrm))))
      | ((first | ((with_reducible refine AL.k_fieldAddr ?_); first | refine AL.q rfl (OQ.fieldA (ty := 26) (i := 0) (n := 1) (off := 0) (g := false) rfl (by kernel_rfl) (by decide)) ?_ | refine AL.q rfl (OQ.fieldA (ty := 44) (i := 0) (n := 1) (off := 0) (g := false) rfl (by kernel_rfl) (by decide)) ?_ | refine AL.q rfl (OQ.fieldA (ty := 44) (i := 1) (n := 1) (off := 1) (g := false) rfl (by kernel_rfl) (by decide)) ?_ | refine AL.q rfl (OQ.fieldA (ty := 26) (i := 1) (n := 1) (off := 1) (g := false) rfl (by kernel_rfl) (by decide)) ?_ | refine AL.q rfl (OQ.fieldA (ty := 26) (i := 2) (n := 1) (off := 2) (g := false) rfl (by kernel_rfl) (by decide)) ?_) | ((with_reducible refine AL.k_load ?_); first | (refine AL.q rfl (OQ.load1 (ty := 3) rfl (by kernel_rfl) (by conv => lhs; whnf)) ?_)) | ((with_reducible refine AL.k_indexAddr ?_); first | refine AL.q rfl (OQ.idxPtr (ty := 45) (n := 2) (l := 3) (g := true) rfl rfl (by kernel_rfl) (by omega) (by omega)) ?_) | ((with_reducible refine AL.k_assign ?_); first | (refine AL.q rfl (OQ.assign (by conv => lhs; whnf)) ?_)) | ((with_reducible refine AL.k_move ?_); first | (refine AL.q rfl (OQ.move (by conv => lhs; whnf)) ?_)) | ((with_reducible refine AL.k_pick ?_); first | (refine AL.q rfl (OQ.pickT rfl (by with_reducible rfl) (by conv => lhs; whnf)) ?_) | (refine AL.q rfl (OQ.pickF rfl (by with_reducible rfl) (by conv => lhs; whnf)) ?_))); (conv => (arg 5; try tactic => exact nrm)))
      | ((first | first | refine AL.pcall (g := 22) rfl (by kernel_rfl) rfl ((by first | exact W0 _ | exact W1 _ | exact W2 _)) ?_); (conv => (arg 5; try tactic => exact nrm)))
      | ((first | first | (refine AL.w rfl (OW.box (by conv => lhs; whnf) (by intro r h; cases h)) ?_)); (conv => (arg 5; try tactic => exact nrm)); (conv => (arg 6; try tactic => exact nrm)))
      | (refine AL.bs rfl (fun hc => ?_) (fun hc => ?_) <;> (fail_if_success (with_reducible exact lit_no hc)) <;> (try simp only [decide_eq_true_eq, decide_eq_false_iff_not, Bool.not_true, Bool.not_false, Bool.not_eq_true', Bool.not_eq_false', Int.not_lt, Int.not_le, Classical.not_not, ne_eq] at hc) <;> first | (exfalso; first | contradiction | (omega); done) | (conv => (arg 5; try tactic => exact nrm)))
      | refine AL.nil ?_)
    | ((with_reducible refine AW.on ?_); first
      | refine AW.seq ?_
      | refine AW.skip ?_
      | refine AW.exit ?_
      | refine AW.ret ?_
      | refine AW.block ?_
      | refine AW.region ?_
      | (refine AW.conds rfl (fun hc => ?_) (fun hc => ?_) <;> (try simp only [decide_eq_true_eq, decide_eq_false_iff_not, Bool.not_true, Bool.not_false, Bool.not_eq_true', Bool.not_eq_false', Int.not_lt, Int.not_le, Classical.not_not, ne_eq] at hc) <;> first | (exfalso; first | contradiction | (omega); done) | skip))
    | ((with_reducible refine FinP.on ?_); (first | refine FinP.ret (.tmp (by conv => lhs; whnf) .nil) ?_ rfl | refine FinP.end (.tmp (by conv => lhs; whnf) .nil) ?_ rfl); (try simp only [pack, List.drop, List.take]); all_goals (rfl)))
theorem First_q {m : Mem} {v : Value} {l : List St} {nm : ByteArray} {bd : Int} (hS : SlB m v l) (ho : Ors nm l) (hR : Right bd l) : PCalls Try.prog 34 [obW nm bd v] m (.int .i64 (frstT l)) :=
  of_sl hS ho rfl rfl fun w a cap hO => by
    obtain ⟨b, off, rfl, hbw, hmem⟩ := hO.mem hR
    exact First_any nm bd b off cap l w hmem hbw (by have := hR.n2; omega) (by have := hR.n40; omega)
theorem Last_q {m : Mem} {v : Value} {l : List St} {nm : ByteArray} {bd : Int} (hS : SlB m v l) (ho : Ors nm l) (hR : Right bd l) : PCalls Try.prog 35 [obW nm bd v] m (.int .i64 (lastT l)) :=
  of_sl hS ho rfl rfl fun w a cap hO => by
    obtain ⟨b, off, rfl, hbw, hmem⟩ := hO.mem hR
    exact Last_any nm bd b off cap l w hmem hbw (by have := hR.n2; omega) (by have := hR.n40; omega)
theorem briefT_q {m : Mem} {v : Value} {l : List St} {nm : ByteArray} {bd : Int} (hS : SlB m v l) (hwf : ∀ k, k < l.length → -9223372036854775808 ≤ (at_ l k).t ∧ (at_ l k).t ≤ 9223372036854775807) (hl : (l.length : Int) ≤ 9223372036854775807) (hnm : (nm.size : Int) ≤ 9223372036854775807) :
    PCalls Try.prog 17 [obW nm bd v] m (.bool (fewB nm.size l.length && briefB nm.data.toList bd l)) := by
  intro ρ args' w hdom hargs hm
  obtain ⟨xs', e, h1, hg⟩ := hargs.tuple_inv
  cases e
  obtain ⟨u, e0, r0⟩ := hg 0 _ rfl
  obtain ⟨cs, rfl, hs, hg'⟩ := r0.agg_inv
  obtain ⟨u0, f0, q0⟩ := hg' 0 _ rfl
  obtain ⟨u1, f1, q1⟩ := hg' 1 _ rfl
  obtain ⟨u2, f2, q2⟩ := hg' 2 _ rfl
  obtain ⟨a, cap, rfl, hSt, hcap⟩ := hS.real hwf hm q2
  have hcs : cs = #[.string nm, .int .i64 bd, .slice a l.length cap] := by
    refine Array.ext_getElem? fun i => ?_
    match i with
    | 0 => rw [f0, q0.string]; rfl
    | 1 => rw [f1, q1.int]; rfl
    | 2 => exact f2
    | i + 3 => rw [Array.getElem?_eq_none (by simp at hs; omega), Array.getElem?_eq_none (by simp)]
  have : args' = #[obV nm bd a l.length cap] := by
    refine Array.ext_getElem? fun i => ?_
    match i with
    | 0 => rw [e0, hcs]; rfl
    | i + 1 => rw [Array.getElem?_eq_none (by simp at h1; omega), Array.getElem?_eq_none (by simp)]
  subst this
  cases hf : fewB nm.size l.length with
  | false => exact (Brief_no nm bd a l.length cap w hl hnm hf).mono fun e w' ⟨he, hb⟩ => ⟨_, he, .scal rfl, hb⟩
  | true => exact (Brief_yes nm bd a cap l w ⟨by have := (fewB_spec hf).1; omega, hSt, hcap, by omega⟩ hf).mono fun e w' ⟨he, hb⟩ => ⟨_, he, .scal rfl, hb⟩

end Go.Proofs.Ythpjhpfebjjanaa
end
