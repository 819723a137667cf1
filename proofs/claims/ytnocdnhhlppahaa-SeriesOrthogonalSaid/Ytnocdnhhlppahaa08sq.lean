/- SquaresOf of both sides. -/
import Derived.Test.Ytnocdnhhlppahaa08q
import Derived.Test.Ytnocdnhhlppahaa08s
import Derived.Test.Ytnocdnhhlppahaa08t
set_option linter.unusedSimpArgs false
set_option linter.unusedVariables false
namespace Go.Proofs.Ytnocdnhhlppahaa
open Go Go.RowKit Go.Ab Go.Sr
set_option maxRecDepth 100000
set_option maxHeartbeats 4000000
attribute [local irreducible] OQ OW AL AW AD AF SW

/-- What is left of a phase. -/
def dif (x y z : Int) (r : Rw) : Int := r.v - (x * r.x + y * r.y + z * r.z)
def sqN (x y z : Int) (R : List Rw) : Nat → Int
  | 0 => 0
  | k + 1 => sqN x y z R k + dif x y z (rw_ R k) * dif x y z (rw_ R k)
def pmB (x y z : Int) : Prop := (-100 ≤ x ∧ x ≤ 100) ∧ (-100 ≤ y ∧ y ≤ 100) ∧ -1000000 ≤ z ∧ z ≤ 1000000
theorem dif_bd {x y z : Int} {r : Rw} (h : pmB x y z) (hr : (-400 ≤ r.x ∧ r.x ≤ 400) ∧ (-200 ≤ r.y ∧ r.y ≤ 200) ∧ (0 ≤ r.z ∧ r.z ≤ 1) ∧ -16000 ≤ r.v ∧ r.v ≤ 16000) :
    (-40000 ≤ x * r.x ∧ x * r.x ≤ 40000) ∧ (-20000 ≤ y * r.y ∧ y * r.y ≤ 20000) ∧ (-1000000 ≤ z * r.z ∧ z * r.z ≤ 1000000) ∧ (-1076000 ≤ dif x y z r ∧ dif x y z r ≤ 1076000) ∧ 0 ≤ dif x y z r * dif x y z r ∧ dif x y z r * dif x y z r ≤ 1157776000000 := by
  have h1 := mulc 40000 h.1 hr.1 (by decide)
  have h2 := mulc 20000 h.2.1 hr.2.1 (by decide)
  have h3 := mulc (A := 1000000) (B := 1) 1000000 h.2.2 (b := r.z) (by omega) (by decide)
  have h4 : -1076000 ≤ dif x y z r ∧ dif x y z r ≤ 1076000 := by unfold dif; omega
  have h5 := mulc 1157776000000 h4 h4 (by decide)
  refine ⟨h1, h2, h3, h4, ?_, h5.2⟩
  rcases Int.le_total 0 (dif x y z r) with h | h
  · exact Int.mul_nonneg h h
  · rw [← Int.neg_mul_neg]; exact Int.mul_nonneg (by omega) (by omega)
theorem sqN_bd {x y z : Int} {R : List Rw} (h : pmB x y z) (hR : RB 400 200 R) : ∀ k, k ≤ R.length → 0 ≤ sqN x y z R k ∧ sqN x y z R k ≤ k * 1157776000000
  | 0, _ => by simp [sqN]
  | k + 1, hk => by
    have h1 := sqN_bd h hR k (by omega)
    have h2 := dif_bd h (hR.at k (by omega))
    unfold sqN
    omega
def sqE (x y z : Int) : Int := if rngB x (-100) 100 = true ∧ rngB y (-100) 100 = true ∧ rngB z (-1000000) 1000000 = true then 0 else 2
theorem sqE_ok {x y z : Int} (h : sqE x y z = 0) : pmB x y z := by
  unfold sqE at h
  simp only [rngB_true] at h
  split at h
  · rename_i hh; exact hh
  · omega
abbrev pV (x y z : Int) : Value := .agg #[.int .i64 x, .int .i64 y, .int .i64 z]
theorem times_q (a b c x y z : Int) (h1 : -3000000000000000000 ≤ a * x ∧ a * x ≤ 3000000000000000000) (h2 : -3000000000000000000 ≤ b * y ∧ b * y ≤ 3000000000000000000) (h3 : -3000000000000000000 ≤ c * z ∧ c * z ≤ 3000000000000000000) (m : Mem) :
    PCalls Try.prog 91 [pV a b c, pV x y z] m (.int .i64 (a * x + b * y + c * z)) := by
  refine PCalls.any ?_ rfl rfl m
  refine PCalls.enter (t := [pV a b c, pV x y z, undef, undef, undef, undef, undef, undef, undef, undef, undef, undef, undef, undef, undef, undef, undef, undef, undef, undef, undef, undef]) Try.func91 rfl (ro_nil) rfl fun E => ?_
  repeat' (first
    | with_reducible refine Then.n ?_
    | with_reducible refine Then.r ?_
    | with_reducible refine Then.x ?_
    | with_reducible refine InB.n ?_
    | with_reducible refine InB.r ?_
    | with_reducible refine InB.hit ?_
    | with_reducible refine InB.miss (by decide) ?_
    | ((with_reducible refine AL.on ?_); first
      | ((first | ((with_reducible refine AL.k_indexAddr ?_); first | refine AL.q rfl (OQ.idxPtr (ty := 65) (n := 1) (l := 3) (g := false) rfl rfl (by kernel_rfl) (by omega) (by omega)) ?_) | ((with_reducible refine AL.k_load ?_); first | (refine AL.q rfl (OQ.load1 (ty := 3) rfl (by kernel_rfl) (by conv => lhs; whnf)) ?_)) | ((with_reducible refine AL.k_binOp ?_); first | refine AL.q rfl (OQ.muli rfl rfl (by omega)) ?_ | refine AL.q rfl (OQ.mul rfl rfl) ?_ | refine AL.q rfl (OQ.addi rfl rfl (by omega)) ?_ | refine AL.q rfl (OQ.add rfl rfl) ?_) | ((with_reducible refine AL.k_assign ?_); first | (refine AL.q rfl (OQ.assign (by conv => lhs; whnf)) ?_))); (conv => (arg 5; try tactic => exact nrm)))
      | ((first | first | (refine AL.w rfl (OW.box (by conv => lhs; whnf) (by intro r h; cases h)) ?_)); (conv => (arg 5; try tactic => exact nrm)); (conv => (arg 6; try tactic => exact nrm)))
      | refine AL.nil ?_)
    | ((with_reducible refine AW.on ?_); first
      | refine AW.seq ?_
      | refine AW.skip ?_
      | refine AW.exit ?_
      | refine AW.ret ?_
      | refine AW.block ?_
      | refine AW.region ?_
      | (refine AW.conds rfl (fun hc => ?_) (fun hc => ?_) <;> (try simp only [decide_eq_true_eq, decide_eq_false_iff_not, Bool.not_true, Bool.not_false, Bool.not_eq_true', Bool.not_eq_false', Int.not_lt, Int.not_le, Classical.not_not, ne_eq] at hc) <;> first | (exfalso; first | contradiction | (omega); done) | skip))
    | ((with_reducible refine FinP.on ?_); (first | refine FinP.ret (.tmp (by conv => lhs; whnf) .nil) ?_ rfl | refine FinP.end (.tmp (by conv => lhs; whnf) .nil) ?_ rfl); (try simp only [pack, List.drop, List.take]); all_goals (rfl)))
section
variable {l : List Ep} {nm : ByteArray}
theorem Squares_e {m : Mem} {v : Value} (x y z c : Int) (hS : SlE m v l) (hn : nm.size ≤ 1000) (hl : l.length ≤ 1000) (hc : srE nm.data.toList l = c) (hc0 : c ≠ 0) :
    PCalls Try.prog 34 [srV nm v, pV x y z] m (.tuple #[.int .i64 0, .int .i64 c]) := by
  have HC := fun (m : Mem) (v : Value) (hS : SlE m v l) => open_e nm c hS hn hl hc hc0
  refine Sh.up (us := [_]) hS rfl rfl fun v m0 h => ?_
  have hro := h.ro
  rcases h with ⟨rfl, rfl, h3⟩ | ⟨rfl, rfl, h3⟩ | ⟨z, rfl, rfl⟩
  all_goals
    refine PCalls.enter (t := [srV nm _, pV _ _ _, undef, undef, undef, undef, undef, undef, undef, undef, undef, undef, undef, undef, undef, undef, undef, undef, undef, undef, undef, undef, undef, undef, undef, undef, undef, undef, undef, undef, undef, undef, undef, undef, undef, undef, undef, undef, undef, undef, undef, undef, undef, undef, undef, undef, undef, undef, undef, undef, undef, undef, undef, undef, undef, undef, undef, undef, undef, undef, undef, undef, undef, undef]) Try.func34 rfl (hro) rfl fun E => ?_
    repeat' (first
      | with_reducible refine Then.n ?_
      | with_reducible refine Then.r ?_
      | with_reducible refine Then.x ?_
      | with_reducible refine InB.n ?_
      | with_reducible refine InB.r ?_
      | with_reducible refine InB.hit ?_
      | with_reducible refine InB.miss (by decide) ?_
      | ((with_reducible refine AL.on ?_); first
        | (refine AL.gd rfl ?_; first | (refine AL.gskip rfl rfl ?_; (conv => (arg 5; try tactic => exact nrm))) | (refine AL.gs1 rfl rfl (fun hc => ?_) (fun hc => ?_) <;> (try simp only [decide_eq_true_eq, decide_eq_false_iff_not, Bool.not_true, Bool.not_false, Bool.not_eq_true', Bool.not_eq_false', Int.not_lt, Int.not_le, Classical.not_not, ne_eq] at hc) <;> first | (exfalso; first | contradiction | (omega); done) | (conv => (arg 5; try tactic => exact nrm))) | (refine AL.gs0 rfl rfl (fun hc => ?_) (fun hc => ?_) <;> (try simp only [decide_eq_true_eq, decide_eq_false_iff_not, Bool.not_true, Bool.not_false, Bool.not_eq_true', Bool.not_eq_false', Int.not_lt, Int.not_le, Classical.not_not, ne_eq] at hc) <;> first | (exfalso; first | contradiction | (omega); done) | (conv => (arg 5; try tactic => exact nrm))))
        | ((first | ((with_reducible refine AL.k_assign ?_); first | (refine AL.q rfl (OQ.assign (by conv => lhs; whnf)) ?_)) | ((with_reducible refine AL.k_move ?_); first | (refine AL.q rfl (OQ.move (by conv => lhs; whnf)) ?_)) | ((with_reducible refine AL.k_load ?_); first | refine AL.q rfl (OQ.loadN (ty := 24) (n := 2) rfl (by kernel_rfl) (by kernel_rfl) rfl) ?_ | (refine AL.q rfl (OQ.load1 (ty := 3) rfl (by kernel_rfl) (by conv => lhs; whnf)) ?_) | (refine AL.q rfl (OQ.load1 (ty := 132) rfl (by kernel_rfl) (by conv => lhs; whnf)) ?_) | refine AL.q rfl (OQ.loadN (ty := 65) (n := 3) rfl (by kernel_rfl) (by kernel_rfl) rfl) ?_) | ((with_reducible refine AL.k_binOp ?_); first | refine AL.q rfl (OQ.neq rfl rfl) ?_ | refine AL.q rfl (OQ.lss rfl rfl) ?_ | refine AL.q rfl (OQ.muli rfl rfl (by omega)) ?_ | refine AL.q rfl (OQ.mul rfl rfl) ?_ | refine AL.q rfl (OQ.addi rfl rfl (by omega)) ?_ | refine AL.q rfl (OQ.add rfl rfl) ?_) | ((with_reducible refine AL.k_call ?_); first | refine AL.q rfl (OQ.lenS (xt := 132) (r := (none, 3, true)) rfl (by kernel_rfl)) ?_) | ((with_reducible refine AL.k_indexAddr ?_); first | refine AL.q rfl (OQ.idxPtr (ty := 65) (n := 1) (l := 3) (g := false) rfl rfl (by kernel_rfl) (by omega) (by omega)) ?_ | refine AL.q rfl (OQ.idxAddr (ty := 132) (z := 3) (g := true) rfl rfl (by kernel_rfl) (by omega) (by omega)) ?_) | ((with_reducible refine AL.k_extract ?_); first | refine AL.q rfl (OQ.extract rfl rfl) ?_) | ((with_reducible refine AL.k_unOp ?_); first | refine AL.q rfl (OQ.not rfl) ?_) | ((with_reducible refine AL.k_pick ?_); first | (refine AL.q rfl (OQ.pickT rfl (by with_reducible rfl) (by conv => lhs; whnf)) ?_) | (refine AL.q rfl (OQ.pickF rfl (by with_reducible rfl) (by conv => lhs; whnf)) ?_)) | ((with_reducible refine AL.k_fieldAddr ?_); first | refine AL.q rfl (OQ.fieldA (ty := 134) (i := 0) (n := 1) (off := 0) (g := false) rfl (by kernel_rfl) (by decide)) ?_)); (conv => (arg 5; try tactic => exact nrm)))
        | ((first | first | refine AL.pcall (g := 72) rfl (by kernel_rfl) rfl ((by first | exact HC _ _ (.blk 0 _ rfl rfl rfl) | exact HC _ _ (.nil h3 rfl) | exact HC _ _ (.lost h3 rfl))) ?_); (conv => (arg 5; try tactic => exact nrm)))
        | ((first | ((with_reducible refine AL.k_alloc ?_); first | refine AL.w rfl (OW.alloc (ty := 134) (z := [.slice none 0 0, .slice none 0 0]) (by kernel_rfl) rfl) ?_ | refine AL.w rfl (OW.alloc (ty := 137) (z := [.int .i64 0, .int .i64 0, .int .i64 0, .int .i64 0, .int .i64 0, .int .i64 0, .int .i64 0, .int .i64 0, .int .i64 0, .int .i64 0, .int .i64 0, .int .i64 0]) (by kernel_rfl) rfl) ?_ | refine AL.w rfl (OW.alloc (ty := 65) (z := [.int .i64 0, .int .i64 0, .int .i64 0]) (by kernel_rfl) rfl) ?_) | ((with_reducible refine AL.k_store ?_); first | (refine AL.w rfl (OW.store (ty := 134) (n := 2) rfl (by conv => lhs; whnf) rfl rfl (by kernel_rfl) rfl rfl (by decide) rfl (Nat.le_of_ble_eq_true rfl) (by intro r h; cases h)) ?_) | (refine AL.w rfl (OW.store (ty := 137) (n := 12) rfl (by conv => lhs; whnf) rfl rfl (by kernel_rfl) rfl rfl (by decide) rfl (Nat.le_of_ble_eq_true rfl) (by intro r h; cases h)) ?_) | (refine AL.w rfl (OW.store (ty := 65) (n := 3) rfl (by conv => lhs; whnf) rfl rfl (by kernel_rfl) rfl rfl (by decide) rfl (Nat.le_of_ble_eq_true rfl) (by intro r h; cases h)) ?_)) | ((with_reducible refine AL.k_box ?_); first | (refine AL.w rfl (OW.box (by conv => lhs; whnf) (by intro r h; cases h)) ?_))); (conv => (arg 5; try tactic => exact nrm)); (conv => (arg 6; try tactic => exact nrm)))
        | (refine AL.bs rfl (fun hc => ?_) (fun hc => ?_) <;> (fail_if_success (with_reducible exact lit_no hc)) <;> (try simp only [decide_eq_true_eq, decide_eq_false_iff_not, Bool.not_true, Bool.not_false, Bool.not_eq_true', Bool.not_eq_false', Int.not_lt, Int.not_le, Classical.not_not, ne_eq] at hc) <;> first | (exfalso; first | contradiction | (omega); done) | (conv => (arg 5; try tactic => exact nrm)))
        | refine AL.nil ?_)
      | ((with_reducible refine AW.on ?_); first
        | refine AW.seq ?_
        | refine AW.skip ?_
        | refine AW.exit ?_
        | refine AW.ret ?_
        | refine AW.block ?_
        | (refine AW.draw (id := 10) 10 #[0, 1, 0, 7, 15, 0, 0, 96, 255, 511] (by kernel_rfl) (by kernel_rfl) ?_; (conv => (arg 8; simp only [List.take_succ_cons, List.take_zero])))
        | (refine AW.region (id := 4) ?_; exfalso; omega; done)
        | (refine AW.region (id := 6) ?_; exfalso; omega; done)
        | refine AW.region ?_
        | (refine AW.conds rfl (fun hc => ?_) (fun hc => ?_) <;> (try simp only [decide_eq_true_eq, decide_eq_false_iff_not, Bool.not_true, Bool.not_false, Bool.not_eq_true', Bool.not_eq_false', Int.not_lt, Int.not_le, Classical.not_not, ne_eq] at hc) <;> first | (exfalso; first | contradiction | (omega); done) | skip))
      | ((with_reducible refine AD.on ?_); first
        | ((first | ((with_reducible refine AD.k_assign ?_); first | (refine AD.q rfl (OQ.assign (by conv => lhs; whnf)) rfl rfl rfl ?_)) | ((with_reducible refine AD.k_move ?_); first | (refine AD.q rfl (OQ.move (by conv => lhs; whnf)) rfl rfl rfl ?_)) | ((with_reducible refine AD.k_load ?_); first | (refine AD.q rfl (OQ.load1 (ty := 109) rfl (by kernel_rfl) (by conv => lhs; whnf)) rfl rfl rfl ?_) | (refine AD.q rfl (OQ.load1 (ty := 3) rfl (by kernel_rfl) (by conv => lhs; whnf)) rfl rfl rfl ?_) | refine AD.q rfl (OQ.loadN (ty := 65) (n := 3) rfl (by kernel_rfl) (by kernel_rfl) rfl) rfl rfl rfl ?_) | ((with_reducible refine AD.k_binOp ?_); first | refine AD.q rfl (OQ.subi rfl rfl (by omega)) rfl rfl rfl ?_ | refine AD.q rfl (OQ.sub rfl rfl) rfl rfl rfl ?_) | ((with_reducible refine AD.k_indexAddr ?_); first | refine AD.q rfl (OQ.idxAddr (ty := 109) (z := 1) (g := false) rfl rfl (by kernel_rfl) (by omega) (by omega)) rfl rfl rfl ?_) | ((with_reducible refine AD.k_fieldAddr ?_); first | refine AD.q rfl (OQ.fieldA (ty := 134) (i := 1) (n := 1) (off := 1) (g := false) rfl (by kernel_rfl) (by decide)) rfl rfl rfl ?_)); (conv => (arg 10; try tactic => exact nrm)))
        | (refine AD.nil ?_; (conv => (arg 4; simp only [List.drop_succ_cons, List.drop_zero, List.drop_nil])); (conv => (arg 5; try tactic => exact nrm)); (conv => (arg 6; try tactic => exact nrm))))
      | ((with_reducible refine FinP.on ?_); (first | refine FinP.ret (.tmp (by conv => lhs; whnf) (.tmp (by conv => lhs; whnf) .nil)) ?_ rfl | refine FinP.end (.tmp (by conv => lhs; whnf) (.tmp (by conv => lhs; whnf) .nil)) ?_ rfl); (try simp only [pack, List.drop, List.take]); all_goals (rfl)))
theorem Squares_r (hn : nm.size ≤ 1000) (hR : SRight l) (hN : nameB nm.data.toList = true) (x y z : Int) (hE : sqE x y z ≠ 0) (z0 : Nat) :
    PCalls Try.prog 34 [srI nm 0 l.length, pV x y z] [some ⟨flatE l, false, z0⟩] (.tuple #[.int .i64 0, .int .i64 2]) := by
  have HR := fun (m : Mem) (b : Nat) (blk : Blk) (hb : m.at b = some blk) (hc : blk.cells = flatE l) => open_q hn hR hN hb hc rfl
  have HS := fun (n k : Int) (hk : 0 ≤ k ∧ k ≤ 1000000000000) (m : Mem) => small_q n k hk m
  replace hE : ¬ (rngB x (-100) 100 = true ∧ rngB y (-100) 100 = true ∧ rngB z (-1000000) 1000000 = true) := fun hh => hE (if_pos hh)
  generalize hb1 : rngB x (-100) 100 = b1 at *
  generalize hb2 : rngB y (-100) 100 = b2 at *
  generalize hb3 : rngB z (-1000000) 1000000 = b3 at *
  have S1 := small_q x 100 (by decide)
  have S2 := small_q y 100 (by decide)
  have S3 := small_q z 1000000 (by decide)
  rw [hb1] at S1
  rw [hb2] at S2
  rw [hb3] at S3
  clear hb1 hb2 hb3 HS
  refine PCalls.enter (t := [srI nm 0 l.length, pV x y z, undef, undef, undef, undef, undef, undef, undef, undef, undef, undef, undef, undef, undef, undef, undef, undef, undef, undef, undef, undef, undef, undef, undef, undef, undef, undef, undef, undef, undef, undef, undef, undef, undef, undef, undef, undef, undef, undef, undef, undef, undef, undef, undef, undef, undef, undef, undef, undef, undef, undef, undef, undef, undef, undef, undef, undef, undef, undef, undef, undef, undef, undef]) Try.func34 rfl (ro1 _ rfl) rfl fun E => ?_
  repeat' (first
    | with_reducible refine Then.n ?_
    | with_reducible refine Then.r ?_
    | with_reducible refine Then.x ?_
    | with_reducible refine InB.n ?_
    | with_reducible refine InB.r ?_
    | with_reducible refine InB.hit ?_
    | with_reducible refine InB.miss (by decide) ?_
    | ((with_reducible refine AL.on ?_); first
      | (refine AL.gd rfl ?_; first | (refine AL.gskip rfl rfl ?_; (conv => (arg 5; try tactic => exact nrm))) | (refine AL.gs1 rfl rfl (fun hc => ?_) (fun hc => ?_) <;> (try simp only [decide_eq_true_eq, decide_eq_false_iff_not, Bool.not_true, Bool.not_false, Bool.not_eq_true', Bool.not_eq_false', Int.not_lt, Int.not_le, Classical.not_not, ne_eq] at hc) <;> first | (exfalso; first | contradiction | (first | omega | (simp_all; done)); done) | (conv => (arg 5; try tactic => exact nrm))) | (refine AL.gs0 rfl rfl (fun hc => ?_) (fun hc => ?_) <;> (try simp only [decide_eq_true_eq, decide_eq_false_iff_not, Bool.not_true, Bool.not_false, Bool.not_eq_true', Bool.not_eq_false', Int.not_lt, Int.not_le, Classical.not_not, ne_eq] at hc) <;> first | (exfalso; first | contradiction | (first | omega | (simp_all; done)); done) | (conv => (arg 5; try tactic => exact nrm))))
      | ((first | ((with_reducible refine AL.k_assign ?_); first | (refine AL.q rfl (OQ.assign (by conv => lhs; whnf)) ?_)) | ((with_reducible refine AL.k_move ?_); first | (refine AL.q rfl (OQ.move (by conv => lhs; whnf)) ?_)) | ((with_reducible refine AL.k_load ?_); first | refine AL.q rfl (OQ.loadN (ty := 24) (n := 2) rfl (by kernel_rfl) (by kernel_rfl) rfl) ?_ | (refine AL.q rfl (OQ.load1 (ty := 3) rfl (by kernel_rfl) (by conv => lhs; whnf)) ?_) | (refine AL.q rfl (OQ.load1 (ty := 132) rfl (by kernel_rfl) (by conv => lhs; whnf)) ?_) | refine AL.q rfl (OQ.loadN (ty := 65) (n := 3) rfl (by kernel_rfl) (by kernel_rfl) rfl) ?_) | ((with_reducible refine AL.k_binOp ?_); first | refine AL.q rfl (OQ.neq rfl rfl) ?_ | refine AL.q rfl (OQ.lss rfl rfl) ?_ | refine AL.q rfl (OQ.muli rfl rfl (by omega)) ?_ | refine AL.q rfl (OQ.mul rfl rfl) ?_ | refine AL.q rfl (OQ.addi rfl rfl (by omega)) ?_ | refine AL.q rfl (OQ.add rfl rfl) ?_) | ((with_reducible refine AL.k_call ?_); first | refine AL.q rfl (OQ.lenS (xt := 132) (r := (none, 3, true)) rfl (by kernel_rfl)) ?_) | ((with_reducible refine AL.k_indexAddr ?_); first | refine AL.q rfl (OQ.idxPtr (ty := 65) (n := 1) (l := 3) (g := false) rfl rfl (by kernel_rfl) (by omega) (by omega)) ?_ | refine AL.q rfl (OQ.idxAddr (ty := 132) (z := 3) (g := true) rfl rfl (by kernel_rfl) (by omega) (by omega)) ?_) | ((with_reducible refine AL.k_extract ?_); first | refine AL.q rfl (OQ.extract rfl rfl) ?_) | ((with_reducible refine AL.k_unOp ?_); first | refine AL.q rfl (OQ.not rfl) ?_) | ((with_reducible refine AL.k_pick ?_); first | (refine AL.q rfl (OQ.pickT rfl (by with_reducible rfl) (by conv => lhs; whnf)) ?_) | (refine AL.q rfl (OQ.pickF rfl (by with_reducible rfl) (by conv => lhs; whnf)) ?_)) | ((with_reducible refine AL.k_fieldAddr ?_); first | refine AL.q rfl (OQ.fieldA (ty := 134) (i := 0) (n := 1) (off := 0) (g := false) rfl (by kernel_rfl) (by decide)) ?_)); (conv => (arg 5; try tactic => exact nrm)))
      | ((first | first | refine AL.pcall (g := 89) rfl (by kernel_rfl) rfl ((by first | exact S1 _ | exact S2 _ | exact S3 _)) ?_); (conv => (arg 5; try tactic => exact nrm)))
      | ((first | ((with_reducible refine AL.k_call ?_); first | refine AL.acall (g := 72) rfl (by kernel_rfl) rfl ((by exact HR _ 0 _ rfl rfl)) ?_) | ((with_reducible refine AL.k_alloc ?_); first | refine AL.w rfl (OW.alloc (ty := 134) (z := [.slice none 0 0, .slice none 0 0]) (by kernel_rfl) rfl) ?_ | refine AL.w rfl (OW.alloc (ty := 137) (z := [.int .i64 0, .int .i64 0, .int .i64 0, .int .i64 0, .int .i64 0, .int .i64 0, .int .i64 0, .int .i64 0, .int .i64 0, .int .i64 0, .int .i64 0, .int .i64 0]) (by kernel_rfl) rfl) ?_ | refine AL.w rfl (OW.alloc (ty := 65) (z := [.int .i64 0, .int .i64 0, .int .i64 0]) (by kernel_rfl) rfl) ?_) | ((with_reducible refine AL.k_store ?_); first | (refine AL.w rfl (OW.store (ty := 134) (n := 2) rfl (by conv => lhs; whnf) rfl rfl (by kernel_rfl) rfl rfl (by decide) rfl (Nat.le_of_ble_eq_true rfl) (by intro r h; cases h)) ?_) | (refine AL.w rfl (OW.store (ty := 137) (n := 12) rfl (by conv => lhs; whnf) rfl rfl (by kernel_rfl) rfl rfl (by decide) rfl (Nat.le_of_ble_eq_true rfl) (by intro r h; cases h)) ?_) | (refine AL.w rfl (OW.store (ty := 65) (n := 3) rfl (by conv => lhs; whnf) rfl rfl (by kernel_rfl) rfl rfl (by decide) rfl (Nat.le_of_ble_eq_true rfl) (by intro r h; cases h)) ?_)) | ((with_reducible refine AL.k_box ?_); first | (refine AL.w rfl (OW.box (by conv => lhs; whnf) (by intro r h; cases h)) ?_))); (conv => (arg 5; try tactic => exact nrm)); (conv => (arg 6; try tactic => exact nrm)))
      | (refine AL.bs rfl (fun hc => ?_) (fun hc => ?_) <;> (fail_if_success (with_reducible exact lit_no hc)) <;> (try simp only [decide_eq_true_eq, decide_eq_false_iff_not, Bool.not_true, Bool.not_false, Bool.not_eq_true', Bool.not_eq_false', Int.not_lt, Int.not_le, Classical.not_not, ne_eq] at hc) <;> first | (exfalso; first | contradiction | (first | omega | (simp_all; done)); done) | (conv => (arg 5; try tactic => exact nrm)))
      | refine AL.nil ?_)
    | ((with_reducible refine AW.on ?_); first
      | refine AW.seq ?_
      | refine AW.skip ?_
      | refine AW.exit ?_
      | refine AW.ret ?_
      | refine AW.block ?_
      | (refine AW.draw (id := 10) 10 #[0, 1, 0, 7, 15, 0, 0, 96, 255, 511] (by kernel_rfl) (by kernel_rfl) ?_; (conv => (arg 8; simp only [List.take_succ_cons, List.take_zero])))
      | (refine AW.region (id := 3) ?_; exfalso; first | omega | (simp_all; done); done)
      | (refine AW.region (id := 6) ?_; exfalso; first | omega | (simp_all; done); done)
      | refine AW.region ?_
      | (refine AW.conds rfl (fun hc => ?_) (fun hc => ?_) <;> (try simp only [decide_eq_true_eq, decide_eq_false_iff_not, Bool.not_true, Bool.not_false, Bool.not_eq_true', Bool.not_eq_false', Int.not_lt, Int.not_le, Classical.not_not, ne_eq] at hc) <;> first | (exfalso; first | contradiction | (first | omega | (simp_all; done)); done) | skip))
    | ((with_reducible refine AD.on ?_); first
      | ((first | ((with_reducible refine AD.k_assign ?_); first | (refine AD.q rfl (OQ.assign (by conv => lhs; whnf)) rfl rfl rfl ?_)) | ((with_reducible refine AD.k_move ?_); first | (refine AD.q rfl (OQ.move (by conv => lhs; whnf)) rfl rfl rfl ?_)) | ((with_reducible refine AD.k_load ?_); first | (refine AD.q rfl (OQ.load1 (ty := 109) rfl (by kernel_rfl) (by conv => lhs; whnf)) rfl rfl rfl ?_) | (refine AD.q rfl (OQ.load1 (ty := 3) rfl (by kernel_rfl) (by conv => lhs; whnf)) rfl rfl rfl ?_) | refine AD.q rfl (OQ.loadN (ty := 65) (n := 3) rfl (by kernel_rfl) (by kernel_rfl) rfl) rfl rfl rfl ?_) | ((with_reducible refine AD.k_binOp ?_); first | refine AD.q rfl (OQ.subi rfl rfl (by omega)) rfl rfl rfl ?_ | refine AD.q rfl (OQ.sub rfl rfl) rfl rfl rfl ?_) | ((with_reducible refine AD.k_indexAddr ?_); first | refine AD.q rfl (OQ.idxAddr (ty := 109) (z := 1) (g := false) rfl rfl (by kernel_rfl) (by omega) (by omega)) rfl rfl rfl ?_) | ((with_reducible refine AD.k_fieldAddr ?_); first | refine AD.q rfl (OQ.fieldA (ty := 134) (i := 1) (n := 1) (off := 1) (g := false) rfl (by kernel_rfl) (by decide)) rfl rfl rfl ?_)); (conv => (arg 10; try tactic => exact nrm)))
      | (refine AD.nil ?_; (conv => (arg 4; simp only [List.drop_succ_cons, List.drop_zero, List.drop_nil])); (conv => (arg 5; try tactic => exact nrm)); (conv => (arg 6; try tactic => exact nrm))))
    | ((with_reducible refine FinP.on ?_); (first | refine FinP.ret (.tmp (by conv => lhs; whnf) (.tmp (by conv => lhs; whnf) .nil)) ?_ rfl | refine FinP.end (.tmp (by conv => lhs; whnf) (.tmp (by conv => lhs; whnf) .nil)) ?_ rfl); (try simp only [pack, List.drop, List.take]); all_goals (rfl)))
theorem Squares_c (hn : nm.size ≤ 1000) (hR : SRight l) (hN : nameB nm.data.toList = true) (x y z : Int) (hE0 : sqE x y z = 0) (z0 : Nat) :
    PCalls Try.prog 34 [srI nm 0 l.length, pV x y z] [some ⟨flatE l, false, z0⟩] (.tuple #[.int .i64 (sqN x y z (rws l) l.length), .int .i64 0]) := by
  have hn1 := hR.n1
  have hn2 := hR.n20
  have hp := sqE_ok hE0
  have HR := fun (m : Mem) (b : Nat) (blk : Blk) (hb : m.at b = some blk) (hc : blk.cells = flatE l) => open_q hn hR hN hb hc rfl
  have S1 := small_q x 100 (by decide)
  have S2 := small_q y 100 (by decide)
  have S3 := small_q z 1000000 (by decide)
  rw [rngB_true.2 hp.1] at S1
  rw [rngB_true.2 hp.2.1] at S2
  rw [rngB_true.2 hp.2.2] at S3
  have hlen := rws_len l
  have hw : ∀ {m : Mem} {b : Nat} {blk : Blk} (hb : m.at b = some blk) (hc : blk.cells = flatV ((rws l).map Rw.w)) (k : Nat) (hk : k < l.length), m.ld b (k * 3) 3 = some [.int .i64 (rw_ (rws l) k).x, .int .i64 (rw_ (rws l) k).y, .int .i64 (rw_ (rws l) k).z] := fun hb hc k hk => flatW_ld hb hc k (by rw [rws_len]; exact hk)
  have hlv := fun (k : Nat) (hk : k < l.length) => flatP_get (R := rws l) k (by rw [rws_len]; exact hk)
  have hbd : ∀ k, k < l.length → _ := fun k hk => dif_bd (r := rw_ (rws l) k) hp ((rws_rb2 hR).at k (by rw [rws_len]; exact hk))
  have hsb : ∀ k, k ≤ l.length → _ := fun k hk => sqN_bd hp (rws_rb2 hR) k (by rw [rws_len]; exact hk)
  have hss : ∀ k, sqN x y z (rws l) (k + 1) = sqN x y z (rws l) k + dif x y z (rw_ (rws l) k) * dif x y z (rw_ (rws l) k) := fun k => rfl
  have hs0 : sqN x y z (rws l) 0 = 0 := rfl
  have hv : ∀ k, k < l.length → _ := fun k hk => (rws_rb2 hR).at k (by rw [rws_len]; exact hk)
  have HT := fun (k : Nat) (hk : k < l.length) (m : Mem) => times_q x y z (rw_ (rws l) k).x (rw_ (rws l) k).y (rw_ (rws l) k).z (by have := hbd k hk; omega) (by have := hbd k hk; omega) (by have := hbd k hk; omega) m
  have hdf : ∀ k, (rw_ (rws l) k).v - (x * (rw_ (rws l) k).x + y * (rw_ (rws l) k).y + z * (rw_ (rws l) k).z) = dif x y z (rw_ (rws l) k) := fun k => rfl
  generalize sqN x y z (rws l) = Q at *
  clear hE0 hlen
  refine PCalls.enterJ (t := [srI nm 0 l.length, pV x y z, undef, undef, undef, undef, undef, undef, undef, undef, undef, undef, undef, undef, undef, undef, undef, undef, undef, undef, undef, undef, undef, undef, undef, undef, undef, undef, undef, undef, undef, undef, undef, undef, undef, undef, undef, undef, undef, undef, undef, undef, undef, undef, undef, undef, undef, undef, undef, undef, undef, undef, undef, undef, undef, undef, undef, undef, undef, undef, undef, undef, undef, undef]) Try.func34 rfl (ro1 _ rfl) rfl fun E hE => ?_
  repeat' (first
    | with_reducible refine Then.n ?_
    | with_reducible refine Then.r ?_
    | with_reducible refine Then.x ?_
    | with_reducible refine InB.n ?_
    | with_reducible refine InB.r ?_
    | with_reducible refine InB.hit ?_
    | with_reducible refine InB.miss (by decide) ?_
    | ((with_reducible refine AL.on ?_); first
      | (refine AL.gd rfl ?_; first | (refine AL.gskip rfl rfl ?_; (conv => (arg 5; try tactic => exact nrm))) | (refine AL.gs1 rfl rfl (fun hc => ?_) (fun hc => ?_) <;> (try simp only [decide_eq_true_eq, decide_eq_false_iff_not, Bool.not_true, Bool.not_false, Bool.not_eq_true', Bool.not_eq_false', Int.not_lt, Int.not_le, Classical.not_not, ne_eq] at hc) <;> first | (exfalso; first | contradiction | (first | omega | (simp at *; done)); done) | (conv => (arg 5; try tactic => exact nrm))) | (refine AL.gs0 rfl rfl (fun hc => ?_) (fun hc => ?_) <;> (try simp only [decide_eq_true_eq, decide_eq_false_iff_not, Bool.not_true, Bool.not_false, Bool.not_eq_true', Bool.not_eq_false', Int.not_lt, Int.not_le, Classical.not_not, ne_eq] at hc) <;> first | (exfalso; first | contradiction | (first | omega | (simp at *; done)); done) | (conv => (arg 5; try tactic => exact nrm))))
      | ((first | ((with_reducible refine AL.k_assign ?_); first | (refine AL.q rfl (OQ.assign (by conv => lhs; whnf)) ?_)) | ((with_reducible refine AL.k_move ?_); first | (refine AL.q rfl (OQ.move (by conv => lhs; whnf)) ?_)) | ((with_reducible refine AL.k_load ?_); first | refine AL.q rfl (OQ.loadN (ty := 24) (n := 2) rfl (by kernel_rfl) (by kernel_rfl) (by first | (first | exact hw rfl rfl _ (by omega) | exact hlv _ (by omega)) | rfl)) ?_ | (refine AL.q rfl (OQ.load1 (ty := 3) rfl (by kernel_rfl) (by first | (first | exact hw rfl rfl _ (by omega) | exact hlv _ (by omega)) | (conv => lhs; whnf))) ?_) | (refine AL.q rfl (OQ.load1 (ty := 132) rfl (by kernel_rfl) (by first | (first | exact hw rfl rfl _ (by omega) | exact hlv _ (by omega)) | (conv => lhs; whnf))) ?_) | refine AL.q rfl (OQ.loadN (ty := 65) (n := 3) rfl (by kernel_rfl) (by kernel_rfl) (by first | (first | exact hw rfl rfl _ (by omega) | exact hlv _ (by omega)) | rfl)) ?_) | ((with_reducible refine AL.k_binOp ?_); first | refine AL.q rfl (OQ.neq rfl rfl) ?_ | refine AL.q rfl (OQ.lss rfl rfl) ?_ | refine AL.q rfl (OQ.muli rfl rfl (by omega)) ?_ | refine AL.q rfl (OQ.mul rfl rfl) ?_ | refine AL.q rfl (OQ.addi rfl rfl (by omega)) ?_ | refine AL.q rfl (OQ.add rfl rfl) ?_) | ((with_reducible refine AL.k_call ?_); first | refine AL.q rfl (OQ.lenS (xt := 132) (r := (none, 3, true)) rfl (by kernel_rfl)) ?_) | ((with_reducible refine AL.k_extract ?_); first | refine AL.q rfl (OQ.extract rfl rfl) ?_) | ((with_reducible refine AL.k_unOp ?_); first | refine AL.q rfl (OQ.not rfl) ?_) | ((with_reducible refine AL.k_pick ?_); first | (refine AL.q rfl (OQ.pickT rfl (by with_reducible rfl) (by conv => lhs; whnf)) ?_) | (refine AL.q rfl (OQ.pickF rfl (by with_reducible rfl) (by conv => lhs; whnf)) ?_))); (conv => (arg 5; try tactic => exact nrm)))
      | ((first | ((with_reducible refine AL.k_call ?_); first | refine AL.pcall (g := 89) rfl (by kernel_rfl) rfl ((by first | exact S1 _ | exact S2 _ | exact S3 _)) ?_) | ((with_reducible refine AL.k_indexAddr ?_); first | refine AL.q rfl (OQ.idxPtr (ty := 65) (n := 1) (l := 3) (g := false) rfl rfl (by kernel_rfl) (by omega) (by omega)) ?_ | refine AL.q rfl (OQ.idxAddr (ty := 132) (z := 3) (g := true) rfl rfl (by kernel_rfl) (by omega) (by omega)) ?_) | ((with_reducible refine AL.k_fieldAddr ?_); first | refine AL.q rfl (OQ.fieldA (ty := 134) (i := 0) (n := 1) (off := 0) (g := false) rfl (by kernel_rfl) (by decide)) ?_)); (conv => (arg 5; try tactic => exact nrm)))
      | ((first | ((with_reducible refine AL.k_call ?_); first | refine AL.acall (g := 72) rfl (by kernel_rfl) rfl ((by exact HR _ 0 _ rfl rfl)) ?_) | ((with_reducible refine AL.k_alloc ?_); first | refine AL.w rfl (OW.alloc (ty := 134) (z := [.slice none 0 0, .slice none 0 0]) (by kernel_rfl) rfl) ?_ | refine AL.w rfl (OW.alloc (ty := 137) (z := [.int .i64 0, .int .i64 0, .int .i64 0, .int .i64 0, .int .i64 0, .int .i64 0, .int .i64 0, .int .i64 0, .int .i64 0, .int .i64 0, .int .i64 0, .int .i64 0]) (by kernel_rfl) rfl) ?_ | refine AL.w rfl (OW.alloc (ty := 65) (z := [.int .i64 0, .int .i64 0, .int .i64 0]) (by kernel_rfl) rfl) ?_) | ((with_reducible refine AL.k_store ?_); first | (refine AL.w rfl (OW.store (ty := 134) (n := 2) rfl (by conv => lhs; whnf) rfl rfl (by kernel_rfl) rfl rfl (by decide) rfl (Nat.le_of_ble_eq_true rfl) (by intro r h; cases h)) ?_) | (refine AL.w rfl (OW.store (ty := 137) (n := 12) rfl (by conv => lhs; whnf) rfl rfl (by kernel_rfl) rfl rfl (by decide) rfl (Nat.le_of_ble_eq_true rfl) (by intro r h; cases h)) ?_) | (refine AL.w rfl (OW.store (ty := 65) (n := 3) rfl (by conv => lhs; whnf) rfl rfl (by kernel_rfl) rfl rfl (by decide) rfl (Nat.le_of_ble_eq_true rfl) (by intro r h; cases h)) ?_)) | ((with_reducible refine AL.k_box ?_); first | (refine AL.w rfl (OW.box (by conv => lhs; whnf) (by intro r h; cases h)) ?_))); (conv => (arg 5; try tactic => exact nrm)); (conv => (arg 6; try tactic => exact nrm)))
      | (refine AL.bs rfl (fun hc => ?_) (fun hc => ?_) <;> (fail_if_success (with_reducible exact lit_no hc)) <;> (try simp only [decide_eq_true_eq, decide_eq_false_iff_not, Bool.not_true, Bool.not_false, Bool.not_eq_true', Bool.not_eq_false', Int.not_lt, Int.not_le, Classical.not_not, ne_eq] at hc) <;> first | (exfalso; first | contradiction | (first | omega | (simp at *; done)); done) | (conv => (arg 5; try tactic => exact nrm)))
      | refine AL.nil ?_)
    | ((with_reducible refine AW.on ?_); first
      | refine AW.seq ?_
      | refine AW.skip ?_
      | refine AW.exit ?_
      | refine AW.ret ?_
      | ((refine AW.block (id := 1) ?_); (refine AW.wk (Wk.forget [false, false, false, true, false, false, true, false, false, true, false, false, false, false, false, false, false, false, false, false, false, false, false, false, false, false, false, false, false, false, false, false, false, false, false, false, false, false, false, false, false, true, true, true, false, false, false, false, false, false, false, false, false, false, false, false, false, false, false, false, false, false, false, false] rfl) ?_); (conv => (arg 4; simp only [fgt, if_true, if_false, Bool.false_eq_true])); (refine AW.loop (fun n t' m => ∃ k : Nat, n = l.length - k ∧ k ≤ l.length ∧ t' = [junk, junk, junk, .pointer (some ⟨2, 0, none⟩), junk, junk, .pointer (some ⟨5, 0, none⟩), junk, junk, .int .i64 (Q k), junk, junk, junk, junk, junk, junk, junk, junk, junk, junk, junk, junk, junk, junk, junk, junk, junk, junk, junk, junk, junk, junk, junk, junk, junk, junk, junk, junk, junk, junk, junk, .slice (some ⟨3, 0, none⟩) (l.length) INF, .int .i64 (l.length), .int .i64 (k), junk, junk, junk, junk, junk, junk, junk, junk, junk, junk, junk, junk, junk, junk, junk, junk, junk, junk, junk, junk] ∧ m = [some ⟨flatE l, false, z0⟩, some ⟨[.string nm, .slice (some ⟨0, 0, none⟩) (l.length) INF], true, 0⟩, some ⟨[.int .i64 (x), .int .i64 (y), .int .i64 (z)], true, 0⟩, some ⟨flatV ((rws l).map Rw.w), true, 3⟩, some ⟨flatI ((rws l).map Rw.v), true, 1⟩, some ⟨[.slice (some ⟨3, 0, none⟩) (l.length) INF, .slice (some ⟨4, 0, none⟩) (l.length) INF], true, 0⟩, some ⟨[.int .i64 ((NM l).xx), .int .i64 ((NM l).xy), .int .i64 ((NM l).xz), .int .i64 ((NM l).xy), .int .i64 ((NM l).yy), .int .i64 ((NM l).yz), .int .i64 ((NM l).xz), .int .i64 ((NM l).yz), .int .i64 ((NM l).zz), .int .i64 ((NM l).p), .int .i64 ((NM l).q), .int .i64 ((NM l).r)], true, 0⟩]) (l.length) (by exact ⟨0, rfl, Nat.zero_le _, by rw [hs0]; rfl, rfl⟩) ?_); (rintro n t' m ⟨k, rfl, hk, rfl, rfl⟩))
      | refine AW.block ?_
      | (refine AW.draw (id := 10) 10 #[0, 1, 0, 7, 15, 0, 0, 96, 255, 511] (by kernel_rfl) (by kernel_rfl) ?_; (conv => (arg 8; simp only [List.take_succ_cons, List.take_zero])))
      | (refine AW.region (id := 3) ?_; exfalso; first | omega | (simp at *; done); done)
      | (refine AW.region (id := 5) ?_; exfalso; first | omega | (simp at *; done); done)
      | (refine AW.region (id := 9) ?_; ((have hb := hbd k (by omega); have hb2 := hsb k hk; have hb3 := hv k (by omega))))
      | (refine AW.region (id := 11) ?_; (rw [hdf k]))
      | (refine AW.region (id := 13) ?_; ((obtain rfl : k = l.length := (by omega))))
      | refine AW.region ?_
      | (refine AW.conds rfl (fun hc => ?_) (fun hc => ?_) <;> (try simp only [decide_eq_true_eq, decide_eq_false_iff_not, Bool.not_true, Bool.not_false, Bool.not_eq_true', Bool.not_eq_false', Int.not_lt, Int.not_le, Classical.not_not, ne_eq] at hc) <;> first | (exfalso; first | contradiction | (first | omega | (simp at *; done)); done) | skip))
    | ((with_reducible refine AD.on ?_); first
      | ((first | ((with_reducible refine AD.k_assign ?_); first | (refine AD.q rfl (OQ.assign (by conv => lhs; whnf)) rfl rfl rfl ?_)) | ((with_reducible refine AD.k_move ?_); first | (refine AD.q rfl (OQ.move (by conv => lhs; whnf)) rfl rfl rfl ?_)) | ((with_reducible refine AD.k_load ?_); first | (refine AD.q rfl (OQ.load1 (ty := 109) rfl (by kernel_rfl) (by first | (first | exact hw rfl rfl _ (by omega) | exact hlv _ (by omega)) | (conv => lhs; whnf))) rfl rfl rfl ?_) | (refine AD.q rfl (OQ.load1 (ty := 3) rfl (by kernel_rfl) (by first | (first | exact hw rfl rfl _ (by omega) | exact hlv _ (by omega)) | (conv => lhs; whnf))) rfl rfl rfl ?_) | refine AD.q rfl (OQ.loadN (ty := 65) (n := 3) rfl (by kernel_rfl) (by kernel_rfl) (by first | (first | exact hw rfl rfl _ (by omega) | exact hlv _ (by omega)) | rfl)) rfl rfl rfl ?_) | ((with_reducible refine AD.k_binOp ?_); first | refine AD.q rfl (OQ.subi rfl rfl (by omega)) rfl rfl rfl ?_ | refine AD.q rfl (OQ.sub rfl rfl) rfl rfl rfl ?_)); (conv => (arg 10; try tactic => exact nrm)))
      | ((first | ((with_reducible refine AD.k_call ?_); first | refine AD.pcall (g := 91) rfl (by kernel_rfl) rfl (HT _ (by omega) _) rfl rfl ?_) | ((with_reducible refine AD.k_indexAddr ?_); first | refine AD.q rfl (OQ.idxAddr (ty := 109) (z := 1) (g := false) rfl rfl (by kernel_rfl) (by omega) (by omega)) rfl rfl rfl ?_) | ((with_reducible refine AD.k_fieldAddr ?_); first | refine AD.q rfl (OQ.fieldA (ty := 134) (i := 1) (n := 1) (off := 1) (g := false) rfl (by kernel_rfl) (by decide)) rfl rfl rfl ?_)); (conv => (arg 10; try tactic => exact nrm)))
      | (refine AD.nil ?_; (conv => (arg 4; simp only [List.drop_succ_cons, List.drop_zero, List.drop_nil])); (conv => (arg 5; try tactic => exact nrm)); (conv => (arg 6; try tactic => exact nrm))))
    | ((with_reducible refine ex_on ?_); (refine ⟨l.length - (k + 1), _, _, by omega, ?_, k + 1, rfl, by omega, rfl, rfl⟩; rw [hss k]; exact Wk.keep 7 [] (by rw [hE]; exact (by decide : 1 ≤ 7)) rfl rfl (by repeat (first | exact RenT.nil | refine RenT.junk ?_ | refine RenT.val (by first | rfl | with_reducible assumption | (simp only [rn3, rn2, rn1, kσ]; done)) (by first | rfl | assumption | (simp [ok3, ok2, ok1]; done)) ?_)) ⟨⟨_, rfl, rfl, rfl, .inl ⟨rfl, flatE_scal l⟩⟩, ⟨_, rfl, rfl, rfl, .inr ⟨rfl, rfl⟩⟩, ⟨_, rfl, rfl, rfl, .inl ⟨rfl, rfl⟩⟩, ⟨_, rfl, rfl, rfl, .inl ⟨rfl, flatV_scal _⟩⟩, ⟨_, rfl, rfl, rfl, .inl ⟨rfl, flatI_scal _⟩⟩, ⟨_, rfl, rfl, rfl, .inr ⟨rfl, rfl⟩⟩, ⟨_, rfl, rfl, rfl, .inl ⟨rfl, rfl⟩⟩, trivial⟩))
    | ((with_reducible refine FinJ.on ?_); first | exact FinJ.ret (.tmp (by conv => lhs; whnf) (.tmp (by conv => lhs; whnf) .nil)) (jle_flat rfl) | exact FinJ.end (.tmp (by conv => lhs; whnf) (.tmp (by conv => lhs; whnf) .nil)) (jle_flat rfl)))
theorem rSquares_r {m : Mem} {v : Value} (nm : ByteArray) (hS : SlE m v l) (x y z : Int) (hE : sqE x y z ≠ 0) : PCalls Try.prog 35 [srV nm v, pV x y z] m (.tuple #[.int .i64 0, .int .i64 2]) := by
  replace hE : ¬ (rngB x (-100) 100 = true ∧ rngB y (-100) 100 = true ∧ rngB z (-1000000) 1000000 = true) := fun hh => hE (if_pos hh)
  generalize hb1 : rngB x (-100) 100 = b1 at *
  generalize hb2 : rngB y (-100) 100 = b2 at *
  generalize hb3 : rngB z (-1000000) 1000000 = b3 at *
  have S1 := rWithin_q x (-100) 100
  have S2 := rWithin_q y (-100) 100
  have S3 := rWithin_q z (-1000000) 1000000
  rw [hb1] at S1
  rw [hb2] at S2
  rw [hb3] at S3
  clear hb1 hb2 hb3
  refine Sh.up (us := [_]) hS rfl rfl fun v m0 h => ?_
  have hro := h.ro
  rcases h with ⟨rfl, rfl, h3⟩ | ⟨rfl, rfl, h3⟩ | ⟨z, rfl, rfl⟩
  all_goals
    refine PCalls.enter (t := [srV nm _, pV _ _ _, undef, undef, undef, undef, undef, undef, undef, undef, undef, undef, undef, undef, undef, undef, undef, undef, undef, undef, undef, undef, undef, undef, undef, undef, undef, undef, undef, undef, undef, undef, undef, undef, undef, undef, undef, undef, undef, undef, undef, undef, undef, undef, undef, undef, undef, undef, undef, undef]) Try.func35 rfl (hro) rfl fun E => ?_
    repeat' (first
      | with_reducible refine Then.n ?_
      | with_reducible refine Then.r ?_
      | with_reducible refine Then.x ?_
      | with_reducible refine InB.n ?_
      | with_reducible refine InB.r ?_
      | with_reducible refine InB.hit ?_
      | with_reducible refine InB.miss (by decide) ?_
      | ((with_reducible refine AL.on ?_); first
        | (refine AL.gd rfl ?_; first | (refine AL.gskip rfl rfl ?_; (conv => (arg 5; try tactic => exact nrm))) | (refine AL.gs1 rfl rfl (fun hc => ?_) (fun hc => ?_) <;> (try simp only [decide_eq_true_eq, decide_eq_false_iff_not, Bool.not_true, Bool.not_false, Bool.not_eq_true', Bool.not_eq_false', Int.not_lt, Int.not_le, Classical.not_not, ne_eq] at hc) <;> first | (exfalso; first | contradiction | (first | omega | (simp_all; done)); done) | (conv => (arg 5; try tactic => exact nrm))) | (refine AL.gs0 rfl rfl (fun hc => ?_) (fun hc => ?_) <;> (try simp only [decide_eq_true_eq, decide_eq_false_iff_not, Bool.not_true, Bool.not_false, Bool.not_eq_true', Bool.not_eq_false', Int.not_lt, Int.not_le, Classical.not_not, ne_eq] at hc) <;> first | (exfalso; first | contradiction | (first | omega | (simp_all; done)); done) | (conv => (arg 5; try tactic => exact nrm))))
        | ((first | ((with_reducible refine AL.k_assign ?_); first | (refine AL.q rfl (OQ.assign (by conv => lhs; whnf)) ?_)) | ((with_reducible refine AL.k_move ?_); first | (refine AL.q rfl (OQ.move (by conv => lhs; whnf)) ?_)) | ((with_reducible refine AL.k_load ?_); first | (refine AL.q rfl (OQ.load1 (ty := 3) rfl (by kernel_rfl) (by conv => lhs; whnf)) ?_) | (refine AL.q rfl (OQ.load1 (ty := 22) rfl (by kernel_rfl) (by conv => lhs; whnf)) ?_)) | ((with_reducible refine AL.k_call ?_); first | refine AL.q rfl (OQ.lenS (xt := 22) (r := (none, 4, true)) rfl (by kernel_rfl)) ?_) | ((with_reducible refine AL.k_binOp ?_); first | refine AL.q rfl (OQ.lss rfl rfl) ?_ | refine AL.q rfl (OQ.muli rfl rfl (by omega)) ?_ | refine AL.q rfl (OQ.mul rfl rfl) ?_ | refine AL.q rfl (OQ.addi rfl rfl (by omega)) ?_ | refine AL.q rfl (OQ.add rfl rfl) ?_) | ((with_reducible refine AL.k_indexAddr ?_); first | refine AL.q rfl (OQ.idxPtr (ty := 65) (n := 1) (l := 3) (g := false) rfl rfl (by kernel_rfl) (by omega) (by omega)) ?_) | ((with_reducible refine AL.k_unOp ?_); first | refine AL.q rfl (OQ.not rfl) ?_) | ((with_reducible refine AL.k_fieldAddr ?_); first | refine AL.q rfl (OQ.fieldA (ty := 24) (i := 1) (n := 1) (off := 1) (g := false) rfl (by kernel_rfl) (by decide)) ?_) | ((with_reducible refine AL.k_pick ?_); first | (refine AL.q rfl (OQ.pickT rfl (by with_reducible rfl) (by conv => lhs; whnf)) ?_) | (refine AL.q rfl (OQ.pickF rfl (by with_reducible rfl) (by conv => lhs; whnf)) ?_))); (conv => (arg 5; try tactic => exact nrm)))
        | ((first | first | refine AL.pcall (g := 24) rfl (by kernel_rfl) rfl ((by first | exact S1 _ | exact S2 _ | exact S3 _)) ?_); (conv => (arg 5; try tactic => exact nrm)))
        | ((first | first | (refine AL.w rfl (OW.box (by conv => lhs; whnf) (by intro r h; cases h)) ?_)); (conv => (arg 5; try tactic => exact nrm)); (conv => (arg 6; try tactic => exact nrm)))
        | (refine AL.bs rfl (fun hc => ?_) (fun hc => ?_) <;> (fail_if_success (with_reducible exact lit_no hc)) <;> (try simp only [decide_eq_true_eq, decide_eq_false_iff_not, Bool.not_true, Bool.not_false, Bool.not_eq_true', Bool.not_eq_false', Int.not_lt, Int.not_le, Classical.not_not, ne_eq] at hc) <;> first | (exfalso; first | contradiction | (first | omega | (simp_all; done)); done) | (conv => (arg 5; try tactic => exact nrm)))
        | refine AL.nil ?_)
      | ((with_reducible refine AW.on ?_); first
        | refine AW.seq ?_
        | refine AW.skip ?_
        | refine AW.exit ?_
        | refine AW.ret ?_
        | refine AW.block ?_
        | (refine AW.draw (id := 7) 13 #[0, 1, 0, 7, 15, 31, 0, 0, 0, 384, 960, 2047, 4095] (by kernel_rfl) (by kernel_rfl) ?_; (conv => (arg 8; simp only [List.take_succ_cons, List.take_zero])))
        | (refine AW.region (id := 3) ?_; exfalso; first | omega | (simp_all; done); done)
        | refine AW.region ?_
        | (refine AW.conds rfl (fun hc => ?_) (fun hc => ?_) <;> (try simp only [decide_eq_true_eq, decide_eq_false_iff_not, Bool.not_true, Bool.not_false, Bool.not_eq_true', Bool.not_eq_false', Int.not_lt, Int.not_le, Classical.not_not, ne_eq] at hc) <;> first | (exfalso; first | contradiction | (first | omega | (simp_all; done)); done) | skip))
      | ((with_reducible refine AD.on ?_); first
        | ((first | ((with_reducible refine AD.k_assign ?_); first | (refine AD.q rfl (OQ.assign (by conv => lhs; whnf)) rfl rfl rfl ?_)) | ((with_reducible refine AD.k_move ?_); first | (refine AD.q rfl (OQ.move (by conv => lhs; whnf)) rfl rfl rfl ?_)) | ((with_reducible refine AD.k_load ?_); first | (refine AD.q rfl (OQ.load1 (ty := 22) rfl (by kernel_rfl) (by conv => lhs; whnf)) rfl rfl rfl ?_) | (refine AD.q rfl (OQ.load1 (ty := 3) rfl (by kernel_rfl) (by conv => lhs; whnf)) rfl rfl rfl ?_) | refine AD.q rfl (OQ.loadN (ty := 65) (n := 3) rfl (by kernel_rfl) (by kernel_rfl) rfl) rfl rfl rfl ?_ | refine AD.q rfl (OQ.loadN (ty := 24) (n := 2) rfl (by kernel_rfl) (by kernel_rfl) rfl) rfl rfl rfl ?_) | ((with_reducible refine AD.k_binOp ?_); first | refine AD.q rfl (OQ.subi rfl rfl (by omega)) rfl rfl rfl ?_ | refine AD.q rfl (OQ.sub rfl rfl) rfl rfl rfl ?_) | ((with_reducible refine AD.k_indexAddr ?_); first | refine AD.q rfl (OQ.idxAddr (ty := 22) (z := 4) (g := true) rfl rfl (by kernel_rfl) (by omega) (by omega)) rfl rfl rfl ?_) | ((with_reducible refine AD.k_fieldAddr ?_); first | refine AD.q rfl (OQ.fieldA (ty := 24) (i := 1) (n := 1) (off := 1) (g := false) rfl (by kernel_rfl) (by decide)) rfl rfl rfl ?_ | refine AD.q rfl (OQ.fieldA (ty := 85) (i := 2) (n := 1) (off := 2) (g := false) rfl (by kernel_rfl) (by decide)) rfl rfl rfl ?_)); (conv => (arg 10; try tactic => exact nrm)))
        | (refine AD.nil ?_; (conv => (arg 4; simp only [List.drop_succ_cons, List.drop_zero, List.drop_nil])); (conv => (arg 5; try tactic => exact nrm)); (conv => (arg 6; try tactic => exact nrm))))
      | ((with_reducible refine FinP.on ?_); (first | refine FinP.ret (.tmp (by conv => lhs; whnf) (.tmp (by conv => lhs; whnf) .nil)) ?_ rfl | refine FinP.end (.tmp (by conv => lhs; whnf) (.tmp (by conv => lhs; whnf) .nil)) ?_ rfl); (try simp only [pack, List.drop, List.take]); all_goals (rfl)))
theorem rSquares_c (nm : ByteArray) (hR : SRight l) (x y z : Int) (hE0 : sqE x y z = 0) (z0 : Nat) :
    PCalls Try.prog 35 [srI nm 0 l.length, pV x y z] [some ⟨flatE l, false, z0⟩] (.tuple #[.int .i64 (sqN x y z (rws l) l.length), .int .i64 0]) := by
  have hn1 := hR.n1
  have hn2 := hR.n20
  have hp := sqE_ok hE0
  have HR := fun (m : Mem) (b : Nat) (blk : Blk) (hb : m.at b = some blk) (hc : blk.cells = flatE l) (k : Nat) (hk : k < l.length) => row_q nm l hR hb hc rfl k hk
  have S1 := rWithin_q x (-100) 100
  have S2 := rWithin_q y (-100) 100
  have S3 := rWithin_q z (-1000000) 1000000
  rw [rngB_true.2 hp.1] at S1
  rw [rngB_true.2 hp.2.1] at S2
  rw [rngB_true.2 hp.2.2] at S3
  have e2 : ∀ k : Nat, k < l.length → (flatE l)[k * 4 + 2]? = some (.int .i64 (rw_ (rws l) k).v) := fun k hk => by rw [rw_rws l k hk]; exact flatE_get l k 2 (by decide) hk
  have hbd : ∀ k, k < l.length → _ := fun k hk => dif_bd (r := rw_ (rws l) k) hp ((rws_rb2 hR).at k (by rw [rws_len]; exact hk))
  have hsb : ∀ k, k ≤ l.length → _ := fun k hk => sqN_bd hp (rws_rb2 hR) k (by rw [rws_len]; exact hk)
  have hss : ∀ k, sqN x y z (rws l) (k + 1) = sqN x y z (rws l) k + dif x y z (rw_ (rws l) k) * dif x y z (rw_ (rws l) k) := fun k => rfl
  have hs0 : sqN x y z (rws l) 0 = 0 := rfl
  have hv : ∀ k, k < l.length → _ := fun k hk => (rws_rb2 hR).at k (by rw [rws_len]; exact hk)
  have HT := fun (k : Nat) (hk : k < l.length) (m : Mem) => dot_q x y z (rw_ (rws l) k).x (rw_ (rws l) k).y (rw_ (rws l) k).z (by have := hbd k hk; omega) (by have := hbd k hk; omega) (by have := hbd k hk; omega) m
  have hdf : ∀ k, (rw_ (rws l) k).v - (x * (rw_ (rws l) k).x + y * (rw_ (rws l) k).y + z * (rw_ (rws l) k).z) = dif x y z (rw_ (rws l) k) := fun k => rfl
  generalize sqN x y z (rws l) = Q at *
  clear hE0
  refine PCalls.enter (t := [srI nm 0 l.length, pV x y z, undef, undef, undef, undef, undef, undef, undef, undef, undef, undef, undef, undef, undef, undef, undef, undef, undef, undef, undef, undef, undef, undef, undef, undef, undef, undef, undef, undef, undef, undef, undef, undef, undef, undef, undef, undef, undef, undef, undef, undef, undef, undef, undef, undef, undef, undef, undef, undef]) Try.func35 rfl (ro1 _ rfl) rfl fun E => ?_
  repeat' (first
    | with_reducible refine Then.n ?_
    | with_reducible refine Then.r ?_
    | with_reducible refine Then.x ?_
    | with_reducible refine InB.n ?_
    | with_reducible refine InB.r ?_
    | with_reducible refine InB.hit ?_
    | with_reducible refine InB.miss (by decide) ?_
    | ((with_reducible refine AL.on ?_); first
      | (refine AL.gd rfl ?_; first | (refine AL.gskip rfl rfl ?_; (conv => (arg 5; try tactic => exact nrm))) | (refine AL.gs1 rfl rfl (fun hc => ?_) (fun hc => ?_) <;> (try simp only [decide_eq_true_eq, decide_eq_false_iff_not, Bool.not_true, Bool.not_false, Bool.not_eq_true', Bool.not_eq_false', Int.not_lt, Int.not_le, Classical.not_not, ne_eq] at hc) <;> first | (exfalso; first | contradiction | (first | omega | (simp at *; done)); done) | (conv => (arg 5; try tactic => exact nrm))) | (refine AL.gs0 rfl rfl (fun hc => ?_) (fun hc => ?_) <;> (try simp only [decide_eq_true_eq, decide_eq_false_iff_not, Bool.not_true, Bool.not_false, Bool.not_eq_true', Bool.not_eq_false', Int.not_lt, Int.not_le, Classical.not_not, ne_eq] at hc) <;> first | (exfalso; first | contradiction | (first | omega | (simp at *; done)); done) | (conv => (arg 5; try tactic => exact nrm))))
      | ((first | ((with_reducible refine AL.k_assign ?_); first | (refine AL.q rfl (OQ.assign (by conv => lhs; whnf)) ?_)) | ((with_reducible refine AL.k_move ?_); first | (refine AL.q rfl (OQ.move (by conv => lhs; whnf)) ?_)) | ((with_reducible refine AL.k_load ?_); first | (refine AL.q rfl (OQ.load1 (ty := 3) rfl (by kernel_rfl) (by first | (exact e2 _ (by omega)) | (conv => lhs; whnf))) ?_) | (refine AL.q rfl (OQ.load1 (ty := 22) rfl (by kernel_rfl) (by first | (exact e2 _ (by omega)) | (conv => lhs; whnf))) ?_)) | ((with_reducible refine AL.k_call ?_); first | refine AL.q rfl (OQ.lenS (xt := 22) (r := (none, 4, true)) rfl (by kernel_rfl)) ?_) | ((with_reducible refine AL.k_binOp ?_); first | refine AL.q rfl (OQ.lss rfl rfl) ?_ | refine AL.q rfl (OQ.muli rfl rfl (by omega)) ?_ | refine AL.q rfl (OQ.mul rfl rfl) ?_ | refine AL.q rfl (OQ.addi rfl rfl (by omega)) ?_ | refine AL.q rfl (OQ.add rfl rfl) ?_) | ((with_reducible refine AL.k_unOp ?_); first | refine AL.q rfl (OQ.not rfl) ?_) | ((with_reducible refine AL.k_pick ?_); first | (refine AL.q rfl (OQ.pickT rfl (by with_reducible rfl) (by conv => lhs; whnf)) ?_) | (refine AL.q rfl (OQ.pickF rfl (by with_reducible rfl) (by conv => lhs; whnf)) ?_))); (conv => (arg 5; try tactic => exact nrm)))
      | ((first | ((with_reducible refine AL.k_call ?_); first | refine AL.pcall (g := 24) rfl (by kernel_rfl) rfl ((by first | exact S1 _ | exact S2 _ | exact S3 _)) ?_) | ((with_reducible refine AL.k_indexAddr ?_); first | refine AL.q rfl (OQ.idxPtr (ty := 65) (n := 1) (l := 3) (g := false) rfl rfl (by kernel_rfl) (by omega) (by omega)) ?_) | ((with_reducible refine AL.k_fieldAddr ?_); first | refine AL.q rfl (OQ.fieldA (ty := 24) (i := 1) (n := 1) (off := 1) (g := false) rfl (by kernel_rfl) (by decide)) ?_)); (conv => (arg 5; try tactic => exact nrm)))
      | ((first | first | (refine AL.w rfl (OW.box (by conv => lhs; whnf) (by intro r h; cases h)) ?_)); (conv => (arg 5; try tactic => exact nrm)); (conv => (arg 6; try tactic => exact nrm)))
      | (refine AL.bs rfl (fun hc => ?_) (fun hc => ?_) <;> (fail_if_success (with_reducible exact lit_no hc)) <;> (try simp only [decide_eq_true_eq, decide_eq_false_iff_not, Bool.not_true, Bool.not_false, Bool.not_eq_true', Bool.not_eq_false', Int.not_lt, Int.not_le, Classical.not_not, ne_eq] at hc) <;> first | (exfalso; first | contradiction | (first | omega | (simp at *; done)); done) | (conv => (arg 5; try tactic => exact nrm)))
      | refine AL.nil ?_)
    | ((with_reducible refine AW.on ?_); first
      | refine AW.seq ?_
      | refine AW.skip ?_
      | refine AW.exit ?_
      | refine AW.ret ?_
      | ((refine AW.block (id := 0) ?_); (refine AW.wk (Wk.forget [false, false, true, true, false, false, true, true, false, false, false, false, false, false, false, false, false, false, false, false, false, false, false, false, false, false, false, false, false, false, false, false, false, false, false, false, false, false, false, false, false, false, false, false, false, false, false, false, false, false] rfl) ?_); (conv => (arg 4; simp only [fgt, if_true, if_false, Bool.false_eq_true])); (refine AW.loop (fun n t' m => ∃ k : Nat, n = l.length - k ∧ k ≤ l.length ∧ t' = [junk, junk, .pointer (some ⟨1, 0, none⟩), .pointer (some ⟨2, 0, none⟩), junk, junk, .int .i64 (Q k), .int .i64 (k), junk, junk, junk, junk, junk, junk, junk, junk, junk, junk, junk, junk, junk, junk, junk, junk, junk, junk, junk, junk, junk, junk, junk, junk, junk, junk, junk, junk, junk, junk, junk, junk, junk, junk, junk, junk, junk, junk, junk, junk, junk, junk] ∧ m = [some ⟨flatE l, false, z0⟩, some ⟨[.string nm, .slice (some ⟨0, 0, none⟩) (l.length) INF], true, 0⟩, some ⟨[.int .i64 (x), .int .i64 (y), .int .i64 (z)], true, 0⟩]) (l.length) (by exact ⟨0, rfl, Nat.zero_le _, by rw [hs0]; rfl, rfl⟩) ?_); (rintro n t' m ⟨k, rfl, hk, rfl, rfl⟩))
      | refine AW.block ?_
      | (refine AW.draw (id := 7) 13 #[0, 1, 0, 7, 15, 31, 0, 0, 0, 384, 960, 2047, 4095] (by kernel_rfl) (by kernel_rfl) ?_; (conv => (arg 8; simp only [List.take_succ_cons, List.take_zero])); ((have hb := hbd k (by omega); have hb2 := hsb k hk; have hb3 := hv k (by omega))))
      | (refine AW.region (id := 2) ?_; exfalso; first | omega | (simp at *; done); done)
      | (refine AW.region (id := 8) ?_; (rw [hdf k]))
      | (refine AW.region (id := 9) ?_; ((obtain rfl : k = l.length := (by omega))))
      | refine AW.region ?_
      | (refine AW.conds rfl (fun hc => ?_) (fun hc => ?_) <;> (try simp only [decide_eq_true_eq, decide_eq_false_iff_not, Bool.not_true, Bool.not_false, Bool.not_eq_true', Bool.not_eq_false', Int.not_lt, Int.not_le, Classical.not_not, ne_eq] at hc) <;> first | (exfalso; first | contradiction | (first | omega | (simp at *; done)); done) | skip))
    | ((with_reducible refine AD.on ?_); first
      | ((first | ((with_reducible refine AD.k_assign ?_); first | (refine AD.q rfl (OQ.assign (by conv => lhs; whnf)) rfl rfl rfl ?_)) | ((with_reducible refine AD.k_move ?_); first | (refine AD.q rfl (OQ.move (by conv => lhs; whnf)) rfl rfl rfl ?_)) | ((with_reducible refine AD.k_load ?_); first | (refine AD.q rfl (OQ.load1 (ty := 22) rfl (by kernel_rfl) (by first | (exact e2 _ (by omega)) | (conv => lhs; whnf))) rfl rfl rfl ?_) | (refine AD.q rfl (OQ.load1 (ty := 3) rfl (by kernel_rfl) (by first | (exact e2 _ (by omega)) | (conv => lhs; whnf))) rfl rfl rfl ?_) | refine AD.q rfl (OQ.loadN (ty := 65) (n := 3) rfl (by kernel_rfl) (by kernel_rfl) (by first | (exact e2 _ (by omega)) | rfl)) rfl rfl rfl ?_ | refine AD.q rfl (OQ.loadN (ty := 24) (n := 2) rfl (by kernel_rfl) (by kernel_rfl) (by first | (exact e2 _ (by omega)) | rfl)) rfl rfl rfl ?_) | ((with_reducible refine AD.k_binOp ?_); first | refine AD.q rfl (OQ.subi rfl rfl (by omega)) rfl rfl rfl ?_ | refine AD.q rfl (OQ.sub rfl rfl) rfl rfl rfl ?_)); (conv => (arg 10; try tactic => exact nrm)))
      | ((first | ((with_reducible refine AD.k_call ?_); first | refine AD.pcall (g := 80) rfl (by kernel_rfl) rfl (HR _ _ _ rfl rfl _ (by omega)) rfl rfl ?_ | refine AD.pcall (g := 92) rfl (by kernel_rfl) rfl (HT _ (by omega) _) rfl rfl ?_) | ((with_reducible refine AD.k_indexAddr ?_); first | refine AD.q rfl (OQ.idxAddr (ty := 22) (z := 4) (g := true) rfl rfl (by kernel_rfl) (by omega) (by omega)) rfl rfl rfl ?_) | ((with_reducible refine AD.k_fieldAddr ?_); first | refine AD.q rfl (OQ.fieldA (ty := 24) (i := 1) (n := 1) (off := 1) (g := false) rfl (by kernel_rfl) (by decide)) rfl rfl rfl ?_ | refine AD.q rfl (OQ.fieldA (ty := 85) (i := 2) (n := 1) (off := 2) (g := false) rfl (by kernel_rfl) (by decide)) rfl rfl rfl ?_)); (conv => (arg 10; try tactic => exact nrm)))
      | (refine AD.nil ?_; (conv => (arg 4; simp only [List.drop_succ_cons, List.drop_zero, List.drop_nil])); (conv => (arg 5; try tactic => exact nrm)); (conv => (arg 6; try tactic => exact nrm))))
    | ((with_reducible refine ex_on ?_); (refine ⟨_, _, _, ?_, ?_, k + 1, rfl, (by omega), rfl, rfl⟩; omega; rw [hss k]; exact Wk.forget [false, false, true, true, false, false, true, true, false, false, false, false, false, false, false, false, false, false, false, false, false, false, false, false, false, false, false, false, false, false, false, false, false, false, false, false, false, false, false, false, false, false, false, false, false, false, false, false, false, false] rfl))
    | ((with_reducible refine FinP.on ?_); (first | refine FinP.ret (.tmp (by conv => lhs; whnf) (.tmp (by conv => lhs; whnf) .nil)) ?_ rfl | refine FinP.end (.tmp (by conv => lhs; whnf) (.tmp (by conv => lhs; whnf) .nil)) ?_ rfl); (try simp only [pack, List.drop, List.take]); all_goals (rfl)))
end
end Go.Proofs.Ytnocdnhhlppahaa
