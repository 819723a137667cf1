/- Chapter 8: several fractions with one denominator. -/
import Derived.Test.Ytnocdnhhlppahaa08c
set_option linter.unusedSimpArgs false
set_option linter.unusedVariables false
namespace Go.Proofs.Ytnocdnhhlppahaa
open Go Go.RowKit Go.Ab Go.Sr
set_option maxRecDepth 100000
set_option maxHeartbeats 2000000
attribute [local irreducible] OQ OW AL AW AD AF SW

theorem frV_ok {n d : Int} (h : frSm n d = true) : frV n d = .agg #[.int .i64 (frN n d), .int .i64 (frD n d)] ∧ frE n d = 0 := by simp [frV, frE, h]
theorem frV_no {n d : Int} (h : frSm n d = false) : frV n d = .agg #[.int .i64 0, .int .i64 0] ∧ frE n d = 8 := by simp [frV, frE, h]
def twE (a b d : Int) : Int := if d = 0 then 30 else if frSm a d = true ∧ frSm b d = true then 0 else 8
def twV (a b d : Int) : Value := if d ≠ 0 ∧ frSm a d = true ∧ frSm b d = true then .agg #[.int .i64 (frN a d), .int .i64 (frD a d), .int .i64 (frN b d), .int .i64 (frD b d)] else .agg #[.int .i64 0, .int .i64 0, .int .i64 0, .int .i64 0]
theorem two_0 (a b : Int) (m : Mem) : PCalls Try.prog 81 [.int .i64 a, .int .i64 b, .int .i64 0] m (.tuple #[.agg #[.int .i64 0, .int .i64 0, .int .i64 0, .int .i64 0], .int .i64 30]) := by
  refine PCalls.any ?_ rfl rfl m
  refine PCalls.enter (t := [.int .i64 a, .int .i64 b, .int .i64 0, undef, undef, undef, undef, undef, undef, undef, undef, undef, undef, undef, undef, undef, undef, undef, undef, undef, undef, undef, undef, undef, undef, undef, undef, undef, undef, undef, undef, undef, undef, undef, undef, undef, undef]) Try.func81 rfl (ro_nil) rfl fun E => ?_
  repeat' (first
    | with_reducible refine Then.n ?_
    | with_reducible refine Then.r ?_
    | with_reducible refine Then.x ?_
    | with_reducible refine InB.n ?_
    | with_reducible refine InB.r ?_
    | with_reducible refine InB.hit ?_
    | with_reducible refine InB.miss (by decide) ?_
    | ((with_reducible refine AL.on ?_); first
      | ((first | ((with_reducible refine AL.k_move ?_); first | (refine AL.q rfl (OQ.move (by conv => lhs; whnf)) ?_)) | ((with_reducible refine AL.k_assign ?_); first | (refine AL.q rfl (OQ.assign (by conv => lhs; whnf)) ?_)) | ((with_reducible refine AL.k_extract ?_); first | refine AL.q rfl (OQ.extract rfl rfl) ?_) | ((with_reducible refine AL.k_binOp ?_); first | refine AL.q rfl (OQ.eql rfl rfl) ?_ | refine AL.q rfl (OQ.neq rfl rfl) ?_) | ((with_reducible refine AL.k_load ?_); first | refine AL.q rfl (OQ.loadN (ty := 28) (n := 2) rfl (by kernel_rfl) (by kernel_rfl) rfl) ?_)); (conv => (arg 5; try tactic => exact nrm)))
      | ((first | first | refine AL.q rfl (OQ.buildA (ty := 34) (zs := [.int .i64 0, .int .i64 0, .int .i64 0, .int .i64 0]) (n := 2) (k := 2) (g := true) (by kernel_rfl) rfl (by kernel_rfl) rfl rfl rfl) ?_); (conv => (arg 5; try tactic => exact nrm)))
      | ((first | ((with_reducible refine AL.k_store ?_); first | (refine AL.w rfl (OW.store (ty := 34) (n := 4) rfl (by conv => lhs; whnf) rfl rfl (by kernel_rfl) rfl rfl (by decide) rfl (Nat.le_of_ble_eq_true rfl) (by intro r h; cases h)) ?_) | (refine AL.w rfl (OW.store (ty := 28) (n := 2) rfl (by conv => lhs; whnf) rfl rfl (by kernel_rfl) rfl rfl (by decide) rfl (Nat.le_of_ble_eq_true rfl) (by intro r h; cases h)) ?_)) | ((with_reducible refine AL.k_alloc ?_); first | refine AL.w rfl (OW.alloc (ty := 34) (z := [.int .i64 0, .int .i64 0, .int .i64 0, .int .i64 0]) (by kernel_rfl) rfl) ?_ | refine AL.w rfl (OW.alloc (ty := 28) (z := [.int .i64 0, .int .i64 0]) (by kernel_rfl) rfl) ?_)); (conv => (arg 5; try tactic => exact nrm)); (conv => (arg 6; try tactic => exact nrm)))
      | refine AL.nil ?_)
    | ((with_reducible refine AW.on ?_); first
      | refine AW.seq ?_
      | refine AW.skip ?_
      | refine AW.exit ?_
      | refine AW.ret ?_
      | refine AW.block ?_
      | (refine AW.region (id := 3) ?_; exfalso; simp at *; done)
      | refine AW.region ?_
      | (refine AW.conds rfl (fun hc => ?_) (fun hc => ?_) <;> (try simp only [decide_eq_true_eq, decide_eq_false_iff_not, Bool.not_true, Bool.not_false, Bool.not_eq_true', Bool.not_eq_false', Int.not_lt, Int.not_le, Classical.not_not, ne_eq] at hc) <;> first | (exfalso; first | contradiction | (simp at *); done) | skip))
    | ((with_reducible refine FinP.on ?_); (first | refine FinP.ret (.cellN (n := 4) (by conv => lhs; whnf) (by kernel_rfl) (by kernel_rfl) rfl (.tmp (by conv => lhs; whnf) .nil)) ?_ rfl | refine FinP.end (.cellN (n := 4) (by conv => lhs; whnf) (by kernel_rfl) (by kernel_rfl) rfl (.tmp (by conv => lhs; whnf) .nil)) ?_ rfl); (try simp only [pack, List.drop, List.take]); all_goals (rfl)))
theorem two_q (a b d : Int) (ha : -9000000000000000000 ≤ a ∧ a ≤ 9000000000000000000) (hb : -9000000000000000000 ≤ b ∧ b ≤ 9000000000000000000) (hd : -9000000000000000000 ≤ d ∧ d ≤ 9000000000000000000) (m : Mem) :
    PCalls Try.prog 81 [.int .i64 a, .int .i64 b, .int .i64 d] m (.tuple #[twV a b d, .int .i64 (twE a b d)]) := by
  by_cases h0 : d = 0
  · subst h0
    exact two_0 a b m
  · have H1 := rsmall_q a d ha hd h0
    have H2 := rsmall_q b d hb hd h0
    cases h1 : frSm a d with
    | false =>
      rw [(frV_no h1).1, (frV_no h1).2] at H1
      rw [show twV a b d = .agg #[.int .i64 0, .int .i64 0, .int .i64 0, .int .i64 0] by simp [twV, h1], show twE a b d = 8 by simp [twE, h1, h0]]
      refine PCalls.any ?_ rfl rfl m
      refine PCalls.enter (t := [.int .i64 a, .int .i64 b, .int .i64 d, undef, undef, undef, undef, undef, undef, undef, undef, undef, undef, undef, undef, undef, undef, undef, undef, undef, undef, undef, undef, undef, undef, undef, undef, undef, undef, undef, undef, undef, undef, undef, undef, undef, undef]) Try.func81 rfl (ro_nil) rfl fun E => ?_
      repeat' (first
        | with_reducible refine Then.n ?_
        | with_reducible refine Then.r ?_
        | with_reducible refine Then.x ?_
        | with_reducible refine InB.n ?_
        | with_reducible refine InB.r ?_
        | with_reducible refine InB.hit ?_
        | with_reducible refine InB.miss (by decide) ?_
        | ((with_reducible refine AL.on ?_); first
          | ((first | ((with_reducible refine AL.k_move ?_); first | (refine AL.q rfl (OQ.move (by conv => lhs; whnf)) ?_)) | ((with_reducible refine AL.k_assign ?_); first | (refine AL.q rfl (OQ.assign (by conv => lhs; whnf)) ?_)) | ((with_reducible refine AL.k_extract ?_); first | refine AL.q rfl (OQ.extract rfl rfl) ?_) | ((with_reducible refine AL.k_binOp ?_); first | refine AL.q rfl (OQ.eql rfl rfl) ?_ | refine AL.q rfl (OQ.neq rfl rfl) ?_) | ((with_reducible refine AL.k_load ?_); first | refine AL.q rfl (OQ.loadN (ty := 28) (n := 2) rfl (by kernel_rfl) (by kernel_rfl) rfl) ?_)); (conv => (arg 5; try tactic => exact nrm)))
          | ((first | ((with_reducible refine AL.k_build ?_); first | refine AL.q rfl (OQ.buildA (ty := 34) (zs := [.int .i64 0, .int .i64 0, .int .i64 0, .int .i64 0]) (n := 2) (k := 2) (g := true) (by kernel_rfl) rfl (by kernel_rfl) rfl rfl rfl) ?_) | ((with_reducible refine AL.k_call ?_); first | refine AL.pcall (g := 101) rfl (by kernel_rfl) rfl (H1 _) ?_)); (conv => (arg 5; try tactic => exact nrm)))
          | ((first | ((with_reducible refine AL.k_store ?_); first | (refine AL.w rfl (OW.store (ty := 34) (n := 4) rfl (by conv => lhs; whnf) rfl rfl (by kernel_rfl) rfl rfl (by decide) rfl (Nat.le_of_ble_eq_true rfl) (by intro r h; cases h)) ?_) | (refine AL.w rfl (OW.store (ty := 28) (n := 2) rfl (by conv => lhs; whnf) rfl rfl (by kernel_rfl) rfl rfl (by decide) rfl (Nat.le_of_ble_eq_true rfl) (by intro r h; cases h)) ?_)) | ((with_reducible refine AL.k_alloc ?_); first | refine AL.w rfl (OW.alloc (ty := 34) (z := [.int .i64 0, .int .i64 0, .int .i64 0, .int .i64 0]) (by kernel_rfl) rfl) ?_ | refine AL.w rfl (OW.alloc (ty := 28) (z := [.int .i64 0, .int .i64 0]) (by kernel_rfl) rfl) ?_)); (conv => (arg 5; try tactic => exact nrm)); (conv => (arg 6; try tactic => exact nrm)))
          | refine AL.nil ?_)
        | ((with_reducible refine AW.on ?_); first
          | refine AW.seq ?_
          | refine AW.skip ?_
          | refine AW.exit ?_
          | refine AW.ret ?_
          | refine AW.block ?_
          | (refine AW.region (id := 6) ?_; exfalso; omega; done)
          | refine AW.region ?_
          | (refine AW.conds rfl (fun hc => ?_) (fun hc => ?_) <;> (try simp only [decide_eq_true_eq, decide_eq_false_iff_not, Bool.not_true, Bool.not_false, Bool.not_eq_true', Bool.not_eq_false', Int.not_lt, Int.not_le, Classical.not_not, ne_eq] at hc) <;> first | (exfalso; first | contradiction | (omega); done) | skip))
        | ((with_reducible refine FinP.on ?_); (first | refine FinP.ret (.cellN (n := 4) (by conv => lhs; whnf) (by kernel_rfl) (by kernel_rfl) rfl (.tmp (by conv => lhs; whnf) .nil)) ?_ rfl | refine FinP.end (.cellN (n := 4) (by conv => lhs; whnf) (by kernel_rfl) (by kernel_rfl) rfl (.tmp (by conv => lhs; whnf) .nil)) ?_ rfl); (try simp only [pack, List.drop, List.take]); all_goals (rfl)))
    | true =>
      rw [(frV_ok h1).1, (frV_ok h1).2] at H1
      cases h2 : frSm b d with
      | false =>
        rw [(frV_no h2).1, (frV_no h2).2] at H2
        rw [show twV a b d = .agg #[.int .i64 0, .int .i64 0, .int .i64 0, .int .i64 0] by simp [twV, h2], show twE a b d = 8 by simp [twE, h2, h0]]
        refine PCalls.any ?_ rfl rfl m
        refine PCalls.enter (t := [.int .i64 a, .int .i64 b, .int .i64 d, undef, undef, undef, undef, undef, undef, undef, undef, undef, undef, undef, undef, undef, undef, undef, undef, undef, undef, undef, undef, undef, undef, undef, undef, undef, undef, undef, undef, undef, undef, undef, undef, undef, undef]) Try.func81 rfl (ro_nil) rfl fun E => ?_
        repeat' (first
          | with_reducible refine Then.n ?_
          | with_reducible refine Then.r ?_
          | with_reducible refine Then.x ?_
          | with_reducible refine InB.n ?_
          | with_reducible refine InB.r ?_
          | with_reducible refine InB.hit ?_
          | with_reducible refine InB.miss (by decide) ?_
          | ((with_reducible refine AL.on ?_); first
            | ((first | ((with_reducible refine AL.k_move ?_); first | (refine AL.q rfl (OQ.move (by conv => lhs; whnf)) ?_)) | ((with_reducible refine AL.k_assign ?_); first | (refine AL.q rfl (OQ.assign (by conv => lhs; whnf)) ?_)) | ((with_reducible refine AL.k_extract ?_); first | refine AL.q rfl (OQ.extract rfl rfl) ?_) | ((with_reducible refine AL.k_binOp ?_); first | refine AL.q rfl (OQ.eql rfl rfl) ?_ | refine AL.q rfl (OQ.neq rfl rfl) ?_) | ((with_reducible refine AL.k_load ?_); first | refine AL.q rfl (OQ.loadN (ty := 28) (n := 2) rfl (by kernel_rfl) (by kernel_rfl) rfl) ?_)); (conv => (arg 5; try tactic => exact nrm)))
            | ((first | ((with_reducible refine AL.k_build ?_); first | refine AL.q rfl (OQ.buildA (ty := 34) (zs := [.int .i64 0, .int .i64 0, .int .i64 0, .int .i64 0]) (n := 2) (k := 2) (g := true) (by kernel_rfl) rfl (by kernel_rfl) rfl rfl rfl) ?_) | ((with_reducible refine AL.k_call ?_); first | refine AL.pcall (g := 101) rfl (by kernel_rfl) rfl ((by first | exact H1 _ | exact H2 _)) ?_)); (conv => (arg 5; try tactic => exact nrm)))
            | ((first | ((with_reducible refine AL.k_store ?_); first | (refine AL.w rfl (OW.store (ty := 34) (n := 4) rfl (by conv => lhs; whnf) rfl rfl (by kernel_rfl) rfl rfl (by decide) rfl (Nat.le_of_ble_eq_true rfl) (by intro r h; cases h)) ?_) | (refine AL.w rfl (OW.store (ty := 28) (n := 2) rfl (by conv => lhs; whnf) rfl rfl (by kernel_rfl) rfl rfl (by decide) rfl (Nat.le_of_ble_eq_true rfl) (by intro r h; cases h)) ?_)) | ((with_reducible refine AL.k_alloc ?_); first | refine AL.w rfl (OW.alloc (ty := 34) (z := [.int .i64 0, .int .i64 0, .int .i64 0, .int .i64 0]) (by kernel_rfl) rfl) ?_ | refine AL.w rfl (OW.alloc (ty := 28) (z := [.int .i64 0, .int .i64 0]) (by kernel_rfl) rfl) ?_)); (conv => (arg 5; try tactic => exact nrm)); (conv => (arg 6; try tactic => exact nrm)))
            | refine AL.nil ?_)
          | ((with_reducible refine AW.on ?_); first
            | refine AW.seq ?_
            | refine AW.skip ?_
            | refine AW.exit ?_
            | refine AW.ret ?_
            | refine AW.block ?_
            | (refine AW.region (id := 9) ?_; exfalso; omega; done)
            | refine AW.region ?_
            | (refine AW.conds rfl (fun hc => ?_) (fun hc => ?_) <;> (try simp only [decide_eq_true_eq, decide_eq_false_iff_not, Bool.not_true, Bool.not_false, Bool.not_eq_true', Bool.not_eq_false', Int.not_lt, Int.not_le, Classical.not_not, ne_eq] at hc) <;> first | (exfalso; first | contradiction | (omega); done) | skip))
          | ((with_reducible refine FinP.on ?_); (first | refine FinP.ret (.cellN (n := 4) (by conv => lhs; whnf) (by kernel_rfl) (by kernel_rfl) rfl (.tmp (by conv => lhs; whnf) .nil)) ?_ rfl | refine FinP.end (.cellN (n := 4) (by conv => lhs; whnf) (by kernel_rfl) (by kernel_rfl) rfl (.tmp (by conv => lhs; whnf) .nil)) ?_ rfl); (try simp only [pack, List.drop, List.take]); all_goals (rfl)))
      | true =>
        rw [(frV_ok h2).1, (frV_ok h2).2] at H2
        rw [show twV a b d = .agg #[.int .i64 (frN a d), .int .i64 (frD a d), .int .i64 (frN b d), .int .i64 (frD b d)] by simp [twV, h1, h2, h0], show twE a b d = 0 by simp [twE, h1, h2, h0]]
        generalize frN a d = na at *
        generalize frD a d = da at *
        generalize frN b d = nb at *
        generalize frD b d = db at *
        refine PCalls.any ?_ rfl rfl m
        refine PCalls.enter (t := [.int .i64 a, .int .i64 b, .int .i64 d, undef, undef, undef, undef, undef, undef, undef, undef, undef, undef, undef, undef, undef, undef, undef, undef, undef, undef, undef, undef, undef, undef, undef, undef, undef, undef, undef, undef, undef, undef, undef, undef, undef, undef]) Try.func81 rfl (ro_nil) rfl fun E => ?_
        repeat' (first
          | with_reducible refine Then.n ?_
          | with_reducible refine Then.r ?_
          | with_reducible refine Then.x ?_
          | with_reducible refine InB.n ?_
          | with_reducible refine InB.r ?_
          | with_reducible refine InB.hit ?_
          | with_reducible refine InB.miss (by decide) ?_
          | ((with_reducible refine AL.on ?_); first
            | ((first | ((with_reducible refine AL.k_move ?_); first | (refine AL.q rfl (OQ.move (by conv => lhs; whnf)) ?_)) | ((with_reducible refine AL.k_assign ?_); first | (refine AL.q rfl (OQ.assign (by conv => lhs; whnf)) ?_)) | ((with_reducible refine AL.k_extract ?_); first | refine AL.q rfl (OQ.extract rfl rfl) ?_) | ((with_reducible refine AL.k_binOp ?_); first | refine AL.q rfl (OQ.eql rfl rfl) ?_ | refine AL.q rfl (OQ.neq rfl rfl) ?_) | ((with_reducible refine AL.k_load ?_); first | refine AL.q rfl (OQ.loadN (ty := 28) (n := 2) rfl (by kernel_rfl) (by kernel_rfl) rfl) ?_)); (conv => (arg 5; try tactic => exact nrm)))
            | ((first | ((with_reducible refine AL.k_build ?_); first | refine AL.q rfl (OQ.buildA (ty := 34) (zs := [.int .i64 0, .int .i64 0, .int .i64 0, .int .i64 0]) (n := 2) (k := 2) (g := true) (by kernel_rfl) rfl (by kernel_rfl) rfl rfl rfl) ?_) | ((with_reducible refine AL.k_call ?_); first | refine AL.pcall (g := 101) rfl (by kernel_rfl) rfl ((by first | exact H1 _ | exact H2 _)) ?_)); (conv => (arg 5; try tactic => exact nrm)))
            | ((first | ((with_reducible refine AL.k_store ?_); first | (refine AL.w rfl (OW.store (ty := 34) (n := 4) rfl (by conv => lhs; whnf) rfl rfl (by kernel_rfl) rfl rfl (by decide) rfl (Nat.le_of_ble_eq_true rfl) (by intro r h; cases h)) ?_) | (refine AL.w rfl (OW.store (ty := 28) (n := 2) rfl (by conv => lhs; whnf) rfl rfl (by kernel_rfl) rfl rfl (by decide) rfl (Nat.le_of_ble_eq_true rfl) (by intro r h; cases h)) ?_)) | ((with_reducible refine AL.k_alloc ?_); first | refine AL.w rfl (OW.alloc (ty := 34) (z := [.int .i64 0, .int .i64 0, .int .i64 0, .int .i64 0]) (by kernel_rfl) rfl) ?_ | refine AL.w rfl (OW.alloc (ty := 28) (z := [.int .i64 0, .int .i64 0]) (by kernel_rfl) rfl) ?_)); (conv => (arg 5; try tactic => exact nrm)); (conv => (arg 6; try tactic => exact nrm)))
            | refine AL.nil ?_)
          | ((with_reducible refine AW.on ?_); first
            | refine AW.seq ?_
            | refine AW.skip ?_
            | refine AW.exit ?_
            | refine AW.ret ?_
            | refine AW.block ?_
            | refine AW.region ?_
            | (refine AW.conds rfl (fun hc => ?_) (fun hc => ?_) <;> (try simp only [decide_eq_true_eq, decide_eq_false_iff_not, Bool.not_true, Bool.not_false, Bool.not_eq_true', Bool.not_eq_false', Int.not_lt, Int.not_le, Classical.not_not, ne_eq] at hc) <;> first | (exfalso; first | contradiction | (omega); done) | skip))
          | ((with_reducible refine FinP.on ?_); (first | refine FinP.ret (.cellN (n := 4) (by conv => lhs; whnf) (by kernel_rfl) (by kernel_rfl) rfl (.tmp (by conv => lhs; whnf) .nil)) ?_ rfl | refine FinP.end (.cellN (n := 4) (by conv => lhs; whnf) (by kernel_rfl) (by kernel_rfl) rfl (.tmp (by conv => lhs; whnf) .nil)) ?_ rfl); (try simp only [pack, List.drop, List.take]); all_goals (rfl)))

def mn (a b : Int) : Int := if b < a then b else a
def mx (a b : Int) : Int := if b > a then b else a
theorem twV_form (a b d : Int) : ∃ p q r s : Int, twV a b d = .agg #[.int .i64 p, .int .i64 q, .int .i64 r, .int .i64 s] := by
  unfold twV
  split
  · exact ⟨_, _, _, _, rfl⟩
  · exact ⟨0, 0, 0, 0, rfl⟩
def ueA (e a b e' a' b' : Int) : Int := 500 * ((a + b) * e' - (a' + b') * e)
def ueB (u a b u' a' b' : Int) : Int := 500 * ((a' + b') * u - (a + b) * u')
theorem mn_bd {a b B : Int} (ha : -B ≤ a ∧ a ≤ B) (hb : -B ≤ b ∧ b ≤ B) : -B ≤ mn a b ∧ mn a b ≤ B := by unfold mn; split <;> omega
theorem mx_bd {a b B : Int} (ha : -B ≤ a ∧ a ≤ B) (hb : -B ≤ b ∧ b ≤ B) : -B ≤ mx a b ∧ mx a b ≤ B := by unfold mx; split <;> omega
def cmL (a0 a1 n b0 b1 k : Int) : Int := mn (a0 * n) (a1 * n) + mn (b0 * k) (b1 * k)
def cmH (a0 a1 n b0 b1 k : Int) : Int := mx (a0 * n) (a1 * n) + mx (b0 * k) (b1 * k)
abbrev bxV (ul uh el eh d : Int) : Value := .agg #[.int .i64 (1000 * ul / d), .int .i64 (-(-(1000 * uh) / d)), .int .i64 (1000 * el / d), .int .i64 (-(-(1000 * eh) / d))]
end Go.Proofs.Ytnocdnhhlppahaa
