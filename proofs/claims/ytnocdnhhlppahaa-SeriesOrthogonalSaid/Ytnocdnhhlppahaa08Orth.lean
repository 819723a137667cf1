/- SeriesOrthogonal: the residuals are orthogonal to the days, to the bases and to 1; whole parameters never have a lesser sum of squares than a fit of whole parameters. -/
import Derived.Test.Ytnocdnhhlppahaa08H
import Derived.Test.Ytnocdnhhlppahaa08os
import Derived.Test.Ytnocdnhhlppahaa08t
set_option linter.unusedSimpArgs false
set_option linter.unusedVariables false
section
namespace Go.Proofs.Ytnocdnhhlppahaa
open Go.ChangeShapes Go.WideShapes Go.ChangeAt Go Go.RowKit Go.Ab Go.Sr
set_option maxRecDepth 100000
set_option maxHeartbeats 8000000
attribute [local irreducible] OQ OW AL AW AD AF SW

theorem fr_lo1 {n d k c : Int} (hd : 0 < d) (h : k * d ≤ c * n) : k * frD n d ≤ c * frN n d := by
  have hp := gcd_pos (n := n) (show d ≠ 0 by omega)
  obtain ⟨x, hx⟩ : (Int.gcd n d : Int) ∣ n := Int.gcd_dvd_left ..
  obtain ⟨y, hy⟩ : (Int.gcd n d : Int) ∣ d := Int.gcd_dvd_right ..
  unfold frN frD frG
  rw [if_neg (by omega)]
  generalize (Int.gcd n d : Int) = g at *
  subst hx
  subst hy
  rw [Int.mul_tdiv_cancel_left _ (by omega), Int.mul_tdiv_cancel_left _ (by omega)]
  rw [Int.mul_left_comm k, Int.mul_left_comm c] at h
  exact Int.le_of_mul_le_mul_left h hp
theorem fr_hi1 {n d k c : Int} (hd : 0 < d) (h : c * n ≤ k * d) : c * frN n d ≤ k * frD n d := by
  have hp := gcd_pos (n := n) (show d ≠ 0 by omega)
  obtain ⟨x, hx⟩ : (Int.gcd n d : Int) ∣ n := Int.gcd_dvd_left ..
  obtain ⟨y, hy⟩ : (Int.gcd n d : Int) ∣ d := Int.gcd_dvd_right ..
  unfold frN frD frG
  rw [if_neg (by omega)]
  generalize (Int.gcd n d : Int) = g at *
  subst hx
  subst hy
  rw [Int.mul_tdiv_cancel_left _ (by omega), Int.mul_tdiv_cancel_left _ (by omega)]
  rw [Int.mul_left_comm k, Int.mul_left_comm c] at h
  exact Int.le_of_mul_le_mul_left h hp
/-- What SquaresOf returns. -/
def sqW (x y z : Int) (l : List Ep) : Int := if sqE x y z = 0 then sqN x y z (rws l) l.length else 0
theorem Squares_w (l : List Ep) (nm : ByteArray) (hn : nm.size ≤ 1000) (hR : SRight l) (hN : nameB nm.data.toList = true) (x y z : Int) (m : Mem) (b : Nat) (k : Blk) (hb : m.at b = some k) (hk : k.cells = flatE l) : PCalls Try.prog 34 [srI nm b l.length, pV x y z] m (.tuple #[.int .i64 (sqW x y z l), .int .i64 (sqE x y z)]) := by
  refine PCalls.via1 (args0 := [srI nm 0 l.length, pV x y z]) (fun z0 => ?_) hb hk (flatE_scal l) rfl rfl rfl rfl
  unfold sqW
  by_cases hp : sqE x y z = 0
  · rw [if_pos hp, hp]
    exact Squares_c hn hR hN x y z hp z0
  · rw [if_neg hp, show sqE x y z = 2 by unfold sqE at hp ⊢; split at hp <;> simp_all]
    exact Squares_r hn hR hN x y z hp z0
theorem OrL_n {v : Value} {m0 : Mem} {l : List Ep} (nm : ByteArray) (h : Sh l v m0) (hn : (nm.size : Int) ≤ 9223372036854775807) (hl : (l.length : Int) ≤ 9223372036854775807) (hf : narB nm.data.toList l = false) (a b c : Int) : PCalls Try.prog 10 [srV nm v, pV a b c] m0 (.bool true) := by
  have HA := awake_q
  have HF := fun (m : Mem) (v : Value) (hS : SlE m v l) => Narrow_q hS hn hl
  rw [hf] at HF
  have hro := h.ro
  rcases h with ⟨rfl, rfl, h3⟩ | ⟨rfl, rfl, h3⟩ | ⟨z0, rfl, rfl⟩
  all_goals
    refine PCalls.enter (t := [srV nm _, pV a b c, undef, undef, undef, undef, undef, undef, undef, undef, undef, undef, undef, undef, undef, undef, undef, undef, undef, undef, undef, undef, undef, undef, undef, undef, undef, undef, undef, undef, undef, undef, undef, undef, undef, undef, undef, undef, undef, undef, undef, undef, undef, undef, undef, undef, undef, undef, undef, undef, undef, undef, undef, undef, undef, undef, undef, undef, undef, undef, undef, undef, undef, undef, undef, undef, undef, undef, undef, undef, undef, undef, undef, undef, undef, undef, undef, undef, undef, undef, undef, undef, undef, undef, undef, undef, undef, undef, undef, undef, undef, undef, undef, undef, undef, undef, undef, undef, undef, undef, undef, undef, undef, undef, undef, undef, undef, undef, undef, undef, undef, undef, undef, undef, undef, undef, undef, undef, undef, undef, undef, undef, undef, undef, undef, undef, undef, undef, undef, undef, undef, undef, undef, undef, undef, undef, undef, undef, undef, undef, undef, undef, undef, undef, undef, undef, undef, undef, undef, undef, undef, undef, undef, undef, undef, undef, undef, undef, undef, undef, undef, undef, undef, undef, undef, undef, undef, undef, undef, undef, undef, undef, undef, undef, undef, undef, undef, undef, undef, undef, undef, undef, undef, undef, undef, undef, undef, undef, undef, undef, undef, undef, undef, undef, undef, undef, undef, undef, undef, undef, undef, undef, undef, undef, undef, undef, undef, undef, undef, undef, undef, undef, undef, undef, undef, undef, undef, undef, undef, undef, undef, undef, undef, undef, undef, undef]) Try.func10 rfl (hro) rfl fun E => ?_
    repeat' (first
      | with_reducible refine Then.n ?_
      | with_reducible refine Then.r ?_
      | with_reducible refine Then.x ?_
      | with_reducible refine InB.n ?_
      | with_reducible refine InB.r ?_
      | with_reducible refine InB.hit ?_
      | with_reducible refine InB.miss (by decide) ?_
      | ((with_reducible refine AL.on ?_); first
        | (refine AL.gd rfl ?_; first | (refine AL.gskip rfl rfl ?_; (conv => (arg 5; try tactic => exact nrm))) | (refine AL.gs1 rfl rfl (fun hc => ?_) (fun hc => ?_) <;> (try simp only [decide_eq_true_eq, decide_eq_false_iff_not, Bool.not_true, Bool.not_false, Bool.not_eq_true', Bool.not_eq_false', Int.not_lt, Int.not_le, Classical.not_not, ne_eq] at hc) <;> first | (exfalso; first | contradiction | (first | omega | (simp at *; done)); done) | (conv => (arg 5; try tactic => exact nrm))) | (refine AL.gs0 rfl rfl (fun hc => ?_) (fun hc => ?_) <;> (try simp only [decide_eq_true_eq, decide_eq_false_iff_not, Bool.not_true, Bool.not_false, Bool.not_eq_true', Bool.not_eq_false', Int.not_lt, Int.not_le, Classical.not_not, ne_eq] at hc) <;> first | (exfalso; first | contradiction | (first | omega | (simp at *; done)); done) | (conv => (arg 5; try tactic => exact nrm))))
        | ((first | ((with_reducible refine AL.k_move ?_); first | (refine AL.q rfl (OQ.move (by conv => lhs; whnf)) ?_)) | ((with_reducible refine AL.k_load ?_); first | refine AL.q rfl (OQ.loadN (ty := 24) (n := 2) rfl (by kernel_rfl) (by kernel_rfl) rfl) ?_ | (refine AL.q rfl (OQ.load1 (ty := 22) rfl (by kernel_rfl) (by conv => lhs; whnf)) ?_) | (refine AL.q rfl (OQ.load1 (ty := 3) rfl (by kernel_rfl) (by conv => lhs; whnf)) ?_) | refine AL.q rfl (OQ.loadN (ty := 65) (n := 3) rfl (by kernel_rfl) (by kernel_rfl) rfl) ?_) | ((with_reducible refine AL.k_binOp ?_); first | refine AL.q rfl (OQ.neq rfl rfl) ?_ | refine AL.q rfl (OQ.eql rfl rfl) ?_ | refine AL.q rfl (OQ.leq rfl rfl) ?_ | refine AL.q rfl (OQ.lss rfl rfl) ?_ | refine AL.q rfl (OQ.addi rfl rfl (by omega)) ?_ | refine AL.q rfl (OQ.add rfl rfl) ?_ | refine AL.q rfl (nel_t65 rfl rfl) ?_) | ((with_reducible refine AL.k_indexAddr ?_); first | refine AL.q rfl (OQ.idxPtr (ty := 97) (n := 1) (l := 9) (g := false) rfl rfl (by kernel_rfl) (by omega) (by omega)) ?_ | refine AL.q rfl (OQ.idxPtr (ty := 65) (n := 1) (l := 3) (g := false) rfl rfl (by kernel_rfl) (by omega) (by omega)) ?_ | refine AL.q rfl (OQ.idxPtr (ty := 29) (n := 2) (l := 3) (g := true) rfl rfl (by kernel_rfl) (by omega) (by omega)) ?_) | ((with_reducible refine AL.k_assign ?_); first | (refine AL.q rfl (OQ.assign (by conv => lhs; whnf)) ?_)) | ((with_reducible refine AL.k_call ?_); first | refine AL.q rfl (OQ.lenS (xt := 87) (r := (none, 2, true)) rfl (by kernel_rfl)) ?_ | refine AL.q rfl (OQ.lenS (xt := 22) (r := (none, 4, true)) rfl (by kernel_rfl)) ?_) | ((with_reducible refine AL.k_fieldAddr ?_); first | refine AL.q rfl (OQ.fieldA (ty := 24) (i := 1) (n := 1) (off := 1) (g := false) rfl (by kernel_rfl) (by decide)) ?_ | refine AL.q rfl (OQ.fieldA (ty := 28) (i := 1) (n := 1) (off := 1) (g := false) rfl (by kernel_rfl) (by decide)) ?_) | ((with_reducible refine AL.k_pick ?_); first | (refine AL.q rfl (OQ.pickT rfl (by with_reducible rfl) (by conv => lhs; whnf)) ?_) | (refine AL.q rfl (OQ.pickF rfl (by with_reducible rfl) (by conv => lhs; whnf)) ?_)) | ((with_reducible refine AL.k_extract ?_); first | refine AL.q rfl (OQ.extract rfl rfl) ?_) | ((with_reducible refine AL.k_unOp ?_); first | refine AL.q rfl (OQ.not rfl) ?_) | ((with_reducible refine AL.k_field ?_); first | refine AL.q rfl (OQ.field1 (ty := 101) (i := 1) (n := 1) (off := 3) rfl (by kernel_rfl) rfl) ?_)); (conv => (arg 5; try tactic => exact nrm)))
        | ((first | ((with_reducible refine AL.k_call ?_); first | refine AL.pcall (g := 15) rfl (by kernel_rfl) rfl (HA _) ?_ | refine AL.pcall (g := 49) rfl (by kernel_rfl) rfl ((by first | exact HF _ _ (.blk 0 _ rfl rfl rfl) | exact HF _ _ (.nil h3 rfl) | exact HF _ _ (.lost h3 rfl))) ?_) | ((with_reducible refine AL.k_build ?_); first | refine AL.q rfl (OQ.buildA (ty := 65) (zs := [.int .i64 0, .int .i64 0, .int .i64 0]) (n := 1) (k := 3) (g := false) (by kernel_rfl) rfl (by kernel_rfl) rfl rfl rfl) ?_)); (conv => (arg 5; try tactic => exact nrm)))
        | ((first | ((with_reducible refine AL.k_store ?_); first | (refine AL.w rfl (OW.store (ty := 97) (n := 9) rfl (by conv => lhs; whnf) rfl rfl (by kernel_rfl) rfl rfl (by decide) rfl (Nat.le_of_ble_eq_true rfl) (by intro r h; cases h)) ?_) | (refine AL.w rfl (OW.store (ty := 65) (n := 3) rfl (by conv => lhs; whnf) rfl rfl (by kernel_rfl) rfl rfl (by decide) rfl (Nat.le_of_ble_eq_true rfl) (by intro r h; cases h)) ?_) | (refine AL.w rfl (OW.store (ty := 3) (n := 1) rfl (by conv => lhs; whnf) rfl rfl (by kernel_rfl) rfl rfl (by decide) rfl (Nat.le_of_ble_eq_true rfl) (by intro r h; cases h)) ?_) | (refine AL.w rfl (OW.store (ty := 29) (n := 6) rfl (by conv => lhs; whnf) rfl rfl (by kernel_rfl) rfl rfl (by decide) rfl (Nat.le_of_ble_eq_true rfl) (by intro r h; cases h)) ?_)) | ((with_reducible refine AL.k_alloc ?_); first | refine AL.w rfl (OW.alloc (ty := 97) (z := [.int .i64 0, .int .i64 0, .int .i64 0, .int .i64 0, .int .i64 0, .int .i64 0, .int .i64 0, .int .i64 0, .int .i64 0]) (by kernel_rfl) rfl) ?_ | refine AL.w rfl (OW.alloc (ty := 65) (z := [.int .i64 0, .int .i64 0, .int .i64 0]) (by kernel_rfl) rfl) ?_ | refine AL.w rfl (OW.alloc (ty := 29) (z := [.int .i64 0, .int .i64 0, .int .i64 0, .int .i64 0, .int .i64 0, .int .i64 0]) (by kernel_rfl) rfl) ?_) | ((with_reducible refine AL.k_box ?_); first | (refine AL.w rfl (OW.box (by conv => lhs; whnf) (by intro r h; cases h)) ?_))); (conv => (arg 5; try tactic => exact nrm)); (conv => (arg 6; try tactic => exact nrm)))
        | (refine AL.bs rfl (fun hc => ?_) (fun hc => ?_) <;> (fail_if_success (with_reducible exact lit_no hc)) <;> (try simp only [decide_eq_true_eq, decide_eq_false_iff_not, Bool.not_true, Bool.not_false, Bool.not_eq_true', Bool.not_eq_false', Int.not_lt, Int.not_le, Classical.not_not, ne_eq] at hc) <;> first | (exfalso; first | contradiction | (first | omega | (simp at *; done)); done) | (conv => (arg 5; try tactic => exact nrm)))
        | refine AL.nil ?_)
      | ((with_reducible refine AW.on ?_); first
        | refine AW.seq ?_
        | refine AW.skip ?_
        | refine AW.exit ?_
        | refine AW.ret ?_
        | refine AW.block ?_
        | (refine AW.draw (id := 16) 39 #[0, 0, 3, 7, 15, 0, 63, 127, 255, 511, 511, 511, 3583, 7679, 15871, 32767, 65535, 131071, 262143, 524287, 524287, 2097151, 4194303, 8388607, 524287, 524287, 50855935, 117964799, 252182527, 520617983, 524287, 524287, 3221749759, 7516717055, 16106651647, 33286520831, 68719476735, 137438953471, 274877906943] (by kernel_rfl) (by kernel_rfl) ?_; (conv => (arg 8; simp only [List.take_succ_cons, List.take_zero])))
        | (refine AW.draw (id := 18) 14 #[0, 0, 3, 7, 15, 0, 0, 0, 192, 448, 960, 2016, 4095, 8191] (by kernel_rfl) (by kernel_rfl) ?_; (conv => (arg 8; simp only [List.take_succ_cons, List.take_zero])))
        | (refine AW.drawF (id := 19) 36 #[0, 1, 0, 0, 8, 0, 56, 120, 248, 0, 512, 1536, 3584, 7680, 16376, 32764, 65535, 0, 131072, 0, 0, 1048576, 0, 7340032, 15728640, 32505856, 66584576, 134086656, 0, 268435456, 0, 1879048192, 805830655, 5100797951, 13958643711, 31138512895, 68719476735, 137438953471] (by kernel_rfl) (by kernel_rfl) ?_; (conv => (arg 8; simp only [List.take_succ_cons, List.take_zero])))
        | (refine AW.draw (id := 25) 18 #[0, 1, 0, 4, 12, 0, 32, 96, 0, 256, 768, 2044, 4095, 8191, 16383, 16383, 32767, 131071] (by kernel_rfl) (by kernel_rfl) ?_; (conv => (arg 8; simp only [List.take_succ_cons, List.take_zero])))
        | (refine AW.draw (id := 26) 9 #[0, 1, 0, 7, 15, 31, 31, 63, 255] (by kernel_rfl) (by kernel_rfl) ?_; (conv => (arg 8; simp only [List.take_succ_cons, List.take_zero])))
        | (refine AW.region (id := 2) ?_; exfalso; first | omega | (simp at *; done); done)
        | (refine AW.region (id := 5) ?_; exfalso; first | omega | (simp at *; done); done)
        | refine AW.region ?_
        | (refine AW.conds rfl (fun hc => ?_) (fun hc => ?_) <;> (try simp only [decide_eq_true_eq, decide_eq_false_iff_not, Bool.not_true, Bool.not_false, Bool.not_eq_true', Bool.not_eq_false', Int.not_lt, Int.not_le, Classical.not_not, ne_eq] at hc) <;> first | (exfalso; first | contradiction | (first | omega | (simp at *; done)); done) | skip))
      | ((with_reducible refine AD.on ?_); first
        | (refine AD.gskip rfl rfl rfl ?_; (conv => (arg 10; try tactic => exact nrm)))
        | ((first | refine AD.gn1 rfl rfl (by with_reducible rfl) rfl ?_ | refine AD.gn0 rfl rfl (by with_reducible rfl) rfl ?_); (conv => (arg 10; try tactic => exact nrm)))
        | ((first | ((with_reducible refine AD.k_move ?_); first | (refine AD.q rfl (OQ.move (by conv => lhs; whnf)) rfl rfl rfl ?_) | (refine AD.qc rfl rfl (by with_reducible rfl) (OQ.move (by conv => lhs; whnf)) rfl rfl rfl ?_)) | ((with_reducible refine AD.k_load ?_); first | (refine AD.q rfl (OQ.load1 (ty := 3) rfl (by kernel_rfl) (by conv => lhs; whnf)) rfl rfl rfl ?_) | (refine AD.qc rfl rfl (by with_reducible rfl) (OQ.load1 (ty := 3) rfl (by kernel_rfl) (by conv => lhs; whnf)) rfl rfl rfl ?_) | refine AD.q rfl (OQ.loadN (ty := 24) (n := 2) rfl (by kernel_rfl) (by kernel_rfl) rfl) rfl rfl rfl ?_ | refine AD.q rfl (OQ.loadN (ty := 65) (n := 3) rfl (by kernel_rfl) (by kernel_rfl) rfl) rfl rfl rfl ?_) | ((with_reducible refine AD.k_binOp ?_); first | refine AD.qc rfl rfl (by with_reducible rfl) (OQ.neq rfl rfl) rfl rfl rfl ?_ | refine AD.qc rfl rfl (by with_reducible rfl) (OQ.muli rfl rfl (by omega)) rfl rfl rfl ?_ | refine AD.qc rfl rfl (by with_reducible rfl) (OQ.mul rfl rfl) rfl rfl rfl ?_ | refine AD.q rfl (OQ.muli rfl rfl (by omega)) rfl rfl rfl ?_ | refine AD.q rfl (OQ.mul rfl rfl) rfl rfl rfl ?_) | ((with_reducible refine AD.k_indexAddr ?_); first | refine AD.q rfl (OQ.idxAddr (ty := 87) (z := 2) (g := true) rfl rfl (by kernel_rfl) (by omega) (by omega)) rfl rfl rfl ?_ | refine AD.qc rfl rfl (by with_reducible rfl) (OQ.idxAddr (ty := 87) (z := 2) (g := true) rfl rfl (by kernel_rfl) (by omega) (by omega)) rfl rfl rfl ?_ | refine AD.q rfl (OQ.idxPtr (ty := 29) (n := 2) (l := 3) (g := true) rfl rfl (by kernel_rfl) (by omega) (by omega)) rfl rfl rfl ?_) | ((with_reducible refine AD.k_fieldAddr ?_); first | refine AD.q rfl (OQ.fieldA (ty := 28) (i := 1) (n := 1) (off := 1) (g := false) rfl (by kernel_rfl) (by decide)) rfl rfl rfl ?_ | refine AD.qc rfl rfl (by with_reducible rfl) (OQ.fieldA (ty := 28) (i := 1) (n := 1) (off := 1) (g := false) rfl (by kernel_rfl) (by decide)) rfl rfl rfl ?_ | refine AD.qc rfl rfl (by with_reducible rfl) (OQ.fieldA (ty := 28) (i := 0) (n := 1) (off := 0) (g := false) rfl (by kernel_rfl) (by decide)) rfl rfl rfl ?_ | refine AD.q rfl (OQ.fieldA (ty := 28) (i := 0) (n := 1) (off := 0) (g := false) rfl (by kernel_rfl) (by decide)) rfl rfl rfl ?_) | ((with_reducible refine AD.k_assign ?_); first | (refine AD.q rfl (OQ.assign (by conv => lhs; whnf)) rfl rfl rfl ?_)) | ((with_reducible refine AD.k_pick ?_); first | (refine AD.q rfl (OQ.pickT rfl (by with_reducible rfl) (by conv => lhs; whnf)) rfl rfl rfl ?_) | (refine AD.q rfl (OQ.pickF rfl (by with_reducible rfl) (by conv => lhs; whnf)) rfl rfl rfl ?_)) | ((with_reducible refine AD.k_extract ?_); first | refine AD.q rfl (OQ.extract rfl rfl) rfl rfl rfl ?_) | ((with_reducible refine AD.k_unOp ?_); first | refine AD.q rfl (OQ.not rfl) rfl rfl rfl ?_ | refine AD.qc rfl rfl (by with_reducible rfl) (OQ.not rfl) rfl rfl rfl ?_)); (conv => (arg 10; try tactic => exact nrm)))
        | ((first | first | refine AD.q rfl (OQ.buildA (ty := 65) (zs := [.int .i64 0, .int .i64 0, .int .i64 0]) (n := 1) (k := 3) (g := false) (by kernel_rfl) rfl (by kernel_rfl) rfl rfl rfl) rfl rfl rfl ?_); (conv => (arg 10; try tactic => exact nrm)))
        | (refine AD.bs rfl (fun hc => ?_) (fun hc => ?_) <;> (fail_if_success (with_reducible exact lit_no hc)) <;> (try simp only [decide_eq_true_eq, decide_eq_false_iff_not, Bool.not_true, Bool.not_false, Bool.not_eq_true', Bool.not_eq_false', Int.not_lt, Int.not_le, Classical.not_not, ne_eq] at hc) <;> first | (exfalso; first | contradiction | (first | omega | (simp at *; done)); done) | (conv => (arg 10; try tactic => exact nrm)))
        | (refine AD.gs1 rfl rfl (fun hc => ?_) (fun hc => ?_) <;> (fail_if_success (with_reducible exact lit_no hc)) <;> (try simp only [decide_eq_true_eq, decide_eq_false_iff_not, Bool.not_true, Bool.not_false, Bool.not_eq_true', Bool.not_eq_false', Int.not_lt, Int.not_le, Classical.not_not, ne_eq] at hc) <;> first | (exfalso; first | contradiction | (first | omega | (simp at *; done)); done) | (conv => (arg 10; try tactic => exact nrm)))
        | (refine AD.gs0 rfl rfl (fun hc => ?_) (fun hc => ?_) <;> (fail_if_success (with_reducible exact lit_no hc)) <;> (try simp only [decide_eq_true_eq, decide_eq_false_iff_not, Bool.not_true, Bool.not_false, Bool.not_eq_true', Bool.not_eq_false', Int.not_lt, Int.not_le, Classical.not_not, ne_eq] at hc) <;> first | (exfalso; first | contradiction | (first | omega | (simp at *; done)); done) | (conv => (arg 10; try tactic => exact nrm)))
        | (refine AD.nil ?_; (conv => (arg 4; simp only [List.drop_succ_cons, List.drop_zero, List.drop_nil])); (conv => (arg 5; try tactic => exact nrm)); (conv => (arg 6; try tactic => exact nrm))))
      | ((with_reducible refine AF.on ?_); first
        | ((first | ((with_reducible refine AF.k_move ?_); first | (refine AF.q 0 (SW.q (OQ.move (by conv => lhs; whnf)) rfl) ?_)) | ((with_reducible refine AF.k_load ?_); first | (refine AF.ql rfl (SW.q (OQ.load1 (ty := 3) rfl (by kernel_rfl) (by conv => lhs; whnf)) rfl) ?_) | (refine AF.ql rfl (SW.q (OQ.load1 (ty := 22) rfl (by kernel_rfl) (by conv => lhs; whnf)) rfl) ?_)) | ((with_reducible refine AF.k_binOp ?_); first | refine AF.q 0 (SW.q (OQ.subi rfl rfl (by omega)) rfl) ?_ | refine AF.q 0 (SW.q (OQ.sub rfl rfl) rfl) ?_ | refine AF.q 0 (SW.q (OQ.muli rfl rfl (by omega)) rfl) ?_ | refine AF.q 0 (SW.q (OQ.mul rfl rfl) rfl) ?_ | refine AF.q 0 (SW.q (OQ.addi rfl rfl (by omega)) rfl) ?_ | refine AF.q 0 (SW.q (OQ.add rfl rfl) rfl) ?_) | ((with_reducible refine AF.k_indexAddr ?_); first | refine AF.q 0 (SW.q (OQ.idxPtr (ty := 65) (n := 1) (l := 3) (g := false) rfl rfl (by kernel_rfl) (by omega) (by omega)) rfl) ?_ | refine AF.q 0 (SW.q (OQ.idxAddr (ty := 22) (z := 4) (g := true) rfl rfl (by kernel_rfl) (by omega) (by omega)) rfl) ?_) | ((with_reducible refine AF.k_fieldAddr ?_); first | refine AF.q 0 (SW.q (OQ.fieldA (ty := 24) (i := 1) (n := 1) (off := 1) (g := false) rfl (by kernel_rfl) (by decide)) rfl) ?_ | refine AF.q 0 (SW.q (OQ.fieldA (ty := 85) (i := 0) (n := 1) (off := 0) (g := false) rfl (by kernel_rfl) (by decide)) rfl) ?_ | refine AF.q 0 (SW.q (OQ.fieldA (ty := 85) (i := 1) (n := 1) (off := 1) (g := false) rfl (by kernel_rfl) (by decide)) rfl) ?_)); (conv => (arg 9; try tactic => exact nrmF)); (conv => (arg 11; try simp only [List.nil_append, List.cons_append])))
        | ((first | first | (refine AF.sl rfl (SW.w (OW.store (ty := 3) (n := 1) rfl (by conv => lhs; whnf) rfl rfl (by kernel_rfl) rfl rfl (by decide) rfl (Nat.le_of_ble_eq_true rfl) (by intro r h; cases h)) rfl) rfl ?_)); (conv => (arg 9; try tactic => exact nrmF)); (conv => (arg 11; try simp only [List.nil_append, List.cons_append])); (conv => (arg 10; try tactic => exact nrmF)))
        | (refine AF.nil ?_ (by kernel_rfl); (conv => (arg 4; simp only [List.drop_succ_cons, List.drop_zero, List.drop_nil]))))
      | ((with_reducible refine FinP.on ?_); (first | refine FinP.ret (.tmp (by conv => lhs; whnf) .nil) ?_ rfl | refine FinP.end (.tmp (by conv => lhs; whnf) .nil) ?_ rfl); (try simp only [pack, List.drop, List.take]); all_goals (rfl)))
theorem OrL_0 {l : List Ep} (nm : ByteArray) (hn : nm.size ≤ 1000) (hl : l.length ≤ 1000) (hf : narB nm.data.toList l = true) (a b c e : Int) (he : e = 30 ∨ e = 8)
    (H1 : ∀ (m : Mem) (i : Nat) (k : Blk), m.at i = some k → k.cells = flatE l → PCalls Try.prog 44 [srI nm i l.length] m (.tuple #[.slice none 0 0, .int .i64 e])) (z0 : Nat) :
    PCalls Try.prog 10 [srI nm 0 l.length, pV a b c] [some ⟨flatE l, false, z0⟩] (.bool true) := by
  have HA := awake_q
  have HF := fun (m : Mem) (v : Value) (hS : SlE m v l) => Narrow_q hS (nm := nm) (by omega) (by omega)
  rw [hf] at HF
  have HY := fun (m : Mem) (v : Value) (hS : SlE m v l) => Copy_q nm hS hl
  refine PCalls.enter (t := [srI nm 0 l.length, pV a b c, undef, undef, undef, undef, undef, undef, undef, undef, undef, undef, undef, undef, undef, undef, undef, undef, undef, undef, undef, undef, undef, undef, undef, undef, undef, undef, undef, undef, undef, undef, undef, undef, undef, undef, undef, undef, undef, undef, undef, undef, undef, undef, undef, undef, undef, undef, undef, undef, undef, undef, undef, undef, undef, undef, undef, undef, undef, undef, undef, undef, undef, undef, undef, undef, undef, undef, undef, undef, undef, undef, undef, undef, undef, undef, undef, undef, undef, undef, undef, undef, undef, undef, undef, undef, undef, undef, undef, undef, undef, undef, undef, undef, undef, undef, undef, undef, undef, undef, undef, undef, undef, undef, undef, undef, undef, undef, undef, undef, undef, undef, undef, undef, undef, undef, undef, undef, undef, undef, undef, undef, undef, undef, undef, undef, undef, undef, undef, undef, undef, undef, undef, undef, undef, undef, undef, undef, undef, undef, undef, undef, undef, undef, undef, undef, undef, undef, undef, undef, undef, undef, undef, undef, undef, undef, undef, undef, undef, undef, undef, undef, undef, undef, undef, undef, undef, undef, undef, undef, undef, undef, undef, undef, undef, undef, undef, undef, undef, undef, undef, undef, undef, undef, undef, undef, undef, undef, undef, undef, undef, undef, undef, undef, undef, undef, undef, undef, undef, undef, undef, undef, undef, undef, undef, undef, undef, undef, undef, undef, undef, undef, undef, undef, undef, undef, undef, undef, undef, undef, undef, undef, undef, undef, undef, undef]) Try.func10 rfl (ro1 _ rfl) rfl fun E => ?_
  repeat' (first
    | with_reducible refine Then.n ?_
    | with_reducible refine Then.r ?_
    | with_reducible refine Then.x ?_
    | with_reducible refine InB.n ?_
    | with_reducible refine InB.r ?_
    | with_reducible refine InB.hit ?_
    | with_reducible refine InB.miss (by decide) ?_
    | ((with_reducible refine AL.on ?_); first
      | (refine AL.gd rfl ?_; first | (refine AL.gskip rfl rfl ?_; (conv => (arg 5; try tactic => exact nrm))) | (refine AL.gs1 rfl rfl (fun hc => ?_) (fun hc => ?_) <;> (try simp only [decide_eq_true_eq, decide_eq_false_iff_not, Bool.not_true, Bool.not_false, Bool.not_eq_true', Bool.not_eq_false', Int.not_lt, Int.not_le, Classical.not_not, ne_eq] at hc) <;> first | (exfalso; first | contradiction | (first | omega | (simp at *; done)); done) | (conv => (arg 5; try tactic => exact nrm))) | (refine AL.gs0 rfl rfl (fun hc => ?_) (fun hc => ?_) <;> (try simp only [decide_eq_true_eq, decide_eq_false_iff_not, Bool.not_true, Bool.not_false, Bool.not_eq_true', Bool.not_eq_false', Int.not_lt, Int.not_le, Classical.not_not, ne_eq] at hc) <;> first | (exfalso; first | contradiction | (first | omega | (simp at *; done)); done) | (conv => (arg 5; try tactic => exact nrm))))
      | ((first | ((with_reducible refine AL.k_move ?_); first | (refine AL.q rfl (OQ.move (by conv => lhs; whnf)) ?_)) | ((with_reducible refine AL.k_load ?_); first | refine AL.q rfl (OQ.loadN (ty := 24) (n := 2) rfl (by kernel_rfl) (by kernel_rfl) rfl) ?_ | (refine AL.q rfl (OQ.load1 (ty := 22) rfl (by kernel_rfl) (by conv => lhs; whnf)) ?_) | (refine AL.q rfl (OQ.load1 (ty := 3) rfl (by kernel_rfl) (by conv => lhs; whnf)) ?_) | refine AL.q rfl (OQ.loadN (ty := 65) (n := 3) rfl (by kernel_rfl) (by kernel_rfl) rfl) ?_) | ((with_reducible refine AL.k_binOp ?_); first | refine AL.q rfl (OQ.neq rfl rfl) ?_ | refine AL.q rfl (OQ.eql rfl rfl) ?_ | refine AL.q rfl (OQ.leq rfl rfl) ?_ | refine AL.q rfl (OQ.lss rfl rfl) ?_ | refine AL.q rfl (OQ.addi rfl rfl (by omega)) ?_ | refine AL.q rfl (OQ.add rfl rfl) ?_ | refine AL.q rfl (nel_t65 rfl rfl) ?_) | ((with_reducible refine AL.k_indexAddr ?_); first | refine AL.q rfl (OQ.idxPtr (ty := 97) (n := 1) (l := 9) (g := false) rfl rfl (by kernel_rfl) (by omega) (by omega)) ?_ | refine AL.q rfl (OQ.idxPtr (ty := 65) (n := 1) (l := 3) (g := false) rfl rfl (by kernel_rfl) (by omega) (by omega)) ?_ | refine AL.q rfl (OQ.idxPtr (ty := 29) (n := 2) (l := 3) (g := true) rfl rfl (by kernel_rfl) (by omega) (by omega)) ?_) | ((with_reducible refine AL.k_assign ?_); first | (refine AL.q rfl (OQ.assign (by conv => lhs; whnf)) ?_)) | ((with_reducible refine AL.k_call ?_); first | refine AL.q rfl (OQ.lenS (xt := 87) (r := (none, 2, true)) rfl (by kernel_rfl)) ?_ | refine AL.q rfl (OQ.lenS (xt := 22) (r := (none, 4, true)) rfl (by kernel_rfl)) ?_) | ((with_reducible refine AL.k_fieldAddr ?_); first | refine AL.q rfl (OQ.fieldA (ty := 24) (i := 1) (n := 1) (off := 1) (g := false) rfl (by kernel_rfl) (by decide)) ?_ | refine AL.q rfl (OQ.fieldA (ty := 28) (i := 1) (n := 1) (off := 1) (g := false) rfl (by kernel_rfl) (by decide)) ?_) | ((with_reducible refine AL.k_pick ?_); first | (refine AL.q rfl (OQ.pickT rfl (by with_reducible rfl) (by conv => lhs; whnf)) ?_) | (refine AL.q rfl (OQ.pickF rfl (by with_reducible rfl) (by conv => lhs; whnf)) ?_)) | ((with_reducible refine AL.k_extract ?_); first | refine AL.q rfl (OQ.extract rfl rfl) ?_) | ((with_reducible refine AL.k_unOp ?_); first | refine AL.q rfl (OQ.not rfl) ?_) | ((with_reducible refine AL.k_field ?_); first | refine AL.q rfl (OQ.field1 (ty := 101) (i := 1) (n := 1) (off := 3) rfl (by kernel_rfl) rfl) ?_)); (conv => (arg 5; try tactic => exact nrm)))
      | ((first | ((with_reducible refine AL.k_call ?_); first | refine AL.pcall (g := 15) rfl (by kernel_rfl) rfl (HA _) ?_ | refine AL.pcall (g := 49) rfl (by kernel_rfl) rfl (HF _ _ (.blk 0 _ rfl rfl rfl)) ?_ | refine AL.pcall (g := 44) rfl (by kernel_rfl) rfl (H1 _ _ _ rfl rfl) ?_) | ((with_reducible refine AL.k_build ?_); first | refine AL.q rfl (OQ.buildA (ty := 65) (zs := [.int .i64 0, .int .i64 0, .int .i64 0]) (n := 1) (k := 3) (g := false) (by kernel_rfl) rfl (by kernel_rfl) rfl rfl rfl) ?_)); (conv => (arg 5; try tactic => exact nrm)))
      | ((first | ((with_reducible refine AL.k_call ?_); first | refine AL.acall (g := 18) rfl (by kernel_rfl) rfl ((HY _ _ (.blk 0 _ rfl rfl rfl))) ?_) | ((with_reducible refine AL.k_store ?_); first | (refine AL.w rfl (OW.store (ty := 97) (n := 9) rfl (by conv => lhs; whnf) rfl rfl (by kernel_rfl) rfl rfl (by decide) rfl (Nat.le_of_ble_eq_true rfl) (by intro r h; cases h)) ?_) | (refine AL.w rfl (OW.store (ty := 65) (n := 3) rfl (by conv => lhs; whnf) rfl rfl (by kernel_rfl) rfl rfl (by decide) rfl (Nat.le_of_ble_eq_true rfl) (by intro r h; cases h)) ?_) | (refine AL.w rfl (OW.store (ty := 3) (n := 1) rfl (by conv => lhs; whnf) rfl rfl (by kernel_rfl) rfl rfl (by decide) rfl (Nat.le_of_ble_eq_true rfl) (by intro r h; cases h)) ?_) | (refine AL.w rfl (OW.store (ty := 29) (n := 6) rfl (by conv => lhs; whnf) rfl rfl (by kernel_rfl) rfl rfl (by decide) rfl (Nat.le_of_ble_eq_true rfl) (by intro r h; cases h)) ?_)) | ((with_reducible refine AL.k_alloc ?_); first | refine AL.w rfl (OW.alloc (ty := 97) (z := [.int .i64 0, .int .i64 0, .int .i64 0, .int .i64 0, .int .i64 0, .int .i64 0, .int .i64 0, .int .i64 0, .int .i64 0]) (by kernel_rfl) rfl) ?_ | refine AL.w rfl (OW.alloc (ty := 65) (z := [.int .i64 0, .int .i64 0, .int .i64 0]) (by kernel_rfl) rfl) ?_ | refine AL.w rfl (OW.alloc (ty := 29) (z := [.int .i64 0, .int .i64 0, .int .i64 0, .int .i64 0, .int .i64 0, .int .i64 0]) (by kernel_rfl) rfl) ?_) | ((with_reducible refine AL.k_box ?_); first | (refine AL.w rfl (OW.box (by conv => lhs; whnf) (by intro r h; cases h)) ?_))); (conv => (arg 5; try tactic => exact nrm)); (conv => (arg 6; try tactic => exact nrm)))
      | (refine AL.bs rfl (fun hc => ?_) (fun hc => ?_) <;> (fail_if_success (with_reducible exact lit_no hc)) <;> (try simp only [decide_eq_true_eq, decide_eq_false_iff_not, Bool.not_true, Bool.not_false, Bool.not_eq_true', Bool.not_eq_false', Int.not_lt, Int.not_le, Classical.not_not, ne_eq] at hc) <;> first | (exfalso; first | contradiction | (first | omega | (simp at *; done)); done) | (conv => (arg 5; try tactic => exact nrm)))
      | refine AL.nil ?_)
    | ((with_reducible refine AW.on ?_); first
      | refine AW.seq ?_
      | refine AW.skip ?_
      | refine AW.exit ?_
      | refine AW.ret ?_
      | refine AW.block ?_
      | (refine AW.draw (id := 16) 39 #[0, 0, 3, 7, 15, 0, 63, 127, 255, 511, 511, 511, 3583, 7679, 15871, 32767, 65535, 131071, 262143, 524287, 524287, 2097151, 4194303, 8388607, 524287, 524287, 50855935, 117964799, 252182527, 520617983, 524287, 524287, 3221749759, 7516717055, 16106651647, 33286520831, 68719476735, 137438953471, 274877906943] (by kernel_rfl) (by kernel_rfl) ?_; (conv => (arg 8; simp only [List.take_succ_cons, List.take_zero])))
      | (refine AW.draw (id := 18) 14 #[0, 0, 3, 7, 15, 0, 0, 0, 192, 448, 960, 2016, 4095, 8191] (by kernel_rfl) (by kernel_rfl) ?_; (conv => (arg 8; simp only [List.take_succ_cons, List.take_zero])))
      | (refine AW.drawF (id := 19) 36 #[0, 1, 0, 0, 8, 0, 56, 120, 248, 0, 512, 1536, 3584, 7680, 16376, 32764, 65535, 0, 131072, 0, 0, 1048576, 0, 7340032, 15728640, 32505856, 66584576, 134086656, 0, 268435456, 0, 1879048192, 805830655, 5100797951, 13958643711, 31138512895, 68719476735, 137438953471] (by kernel_rfl) (by kernel_rfl) ?_; (conv => (arg 8; simp only [List.take_succ_cons, List.take_zero])))
      | (refine AW.drawF (id := 25) 17 #[0, 1, 0, 4, 12, 0, 32, 96, 0, 256, 768, 2044, 4095, 8191, 16383, 16383, 32767, 131071] (by kernel_rfl) (by kernel_rfl) ?_; (conv => (arg 8; simp only [List.take_succ_cons, List.take_zero])))
      | (refine AW.drawF (id := 26) 8 #[0, 1, 0, 7, 15, 31, 31, 63, 255] (by kernel_rfl) (by kernel_rfl) ?_; (conv => (arg 8; simp only [List.take_succ_cons, List.take_zero])))
      | (refine AW.region (id := 2) ?_; exfalso; first | omega | (simp at *; done); done)
      | (refine AW.region (id := 4) ?_; exfalso; first | omega | (simp at *; done); done)
      | (refine AW.region (id := 8) ?_; exfalso; first | omega | (simp at *; done); done)
      | refine AW.region ?_
      | (refine AW.conds rfl (fun hc => ?_) (fun hc => ?_) <;> (try simp only [decide_eq_true_eq, decide_eq_false_iff_not, Bool.not_true, Bool.not_false, Bool.not_eq_true', Bool.not_eq_false', Int.not_lt, Int.not_le, Classical.not_not, ne_eq] at hc) <;> first | (exfalso; first | contradiction | (first | omega | (simp at *; done)); done) | skip))
    | ((with_reducible refine AD.on ?_); first
      | (refine AD.gskip rfl rfl rfl ?_; (conv => (arg 10; try tactic => exact nrm)))
      | ((first | refine AD.gn1 rfl rfl (by with_reducible rfl) rfl ?_ | refine AD.gn0 rfl rfl (by with_reducible rfl) rfl ?_); (conv => (arg 10; try tactic => exact nrm)))
      | ((first | ((with_reducible refine AD.k_move ?_); first | (refine AD.q rfl (OQ.move (by conv => lhs; whnf)) rfl rfl rfl ?_) | (refine AD.qc rfl rfl (by with_reducible rfl) (OQ.move (by conv => lhs; whnf)) rfl rfl rfl ?_)) | ((with_reducible refine AD.k_load ?_); first | (refine AD.q rfl (OQ.load1 (ty := 3) rfl (by kernel_rfl) (by conv => lhs; whnf)) rfl rfl rfl ?_) | (refine AD.qc rfl rfl (by with_reducible rfl) (OQ.load1 (ty := 3) rfl (by kernel_rfl) (by conv => lhs; whnf)) rfl rfl rfl ?_)) | ((with_reducible refine AD.k_binOp ?_); first | refine AD.qc rfl rfl (by with_reducible rfl) (OQ.neq rfl rfl) rfl rfl rfl ?_ | refine AD.qc rfl rfl (by with_reducible rfl) (OQ.muli rfl rfl (by omega)) rfl rfl rfl ?_ | refine AD.qc rfl rfl (by with_reducible rfl) (OQ.mul rfl rfl) rfl rfl rfl ?_ | refine AD.q rfl (OQ.muli rfl rfl (by omega)) rfl rfl rfl ?_ | refine AD.q rfl (OQ.mul rfl rfl) rfl rfl rfl ?_) | ((with_reducible refine AD.k_indexAddr ?_); first | refine AD.q rfl (OQ.idxAddr (ty := 87) (z := 2) (g := true) rfl rfl (by kernel_rfl) (by omega) (by omega)) rfl rfl rfl ?_ | refine AD.qc rfl rfl (by with_reducible rfl) (OQ.idxAddr (ty := 87) (z := 2) (g := true) rfl rfl (by kernel_rfl) (by omega) (by omega)) rfl rfl rfl ?_) | ((with_reducible refine AD.k_fieldAddr ?_); first | refine AD.q rfl (OQ.fieldA (ty := 28) (i := 1) (n := 1) (off := 1) (g := false) rfl (by kernel_rfl) (by decide)) rfl rfl rfl ?_ | refine AD.qc rfl rfl (by with_reducible rfl) (OQ.fieldA (ty := 28) (i := 1) (n := 1) (off := 1) (g := false) rfl (by kernel_rfl) (by decide)) rfl rfl rfl ?_ | refine AD.qc rfl rfl (by with_reducible rfl) (OQ.fieldA (ty := 28) (i := 0) (n := 1) (off := 0) (g := false) rfl (by kernel_rfl) (by decide)) rfl rfl rfl ?_ | refine AD.q rfl (OQ.fieldA (ty := 28) (i := 0) (n := 1) (off := 0) (g := false) rfl (by kernel_rfl) (by decide)) rfl rfl rfl ?_) | ((with_reducible refine AD.k_assign ?_); first | (refine AD.q rfl (OQ.assign (by conv => lhs; whnf)) rfl rfl rfl ?_)) | ((with_reducible refine AD.k_pick ?_); first | (refine AD.q rfl (OQ.pickT rfl (by with_reducible rfl) (by conv => lhs; whnf)) rfl rfl rfl ?_) | (refine AD.q rfl (OQ.pickF rfl (by with_reducible rfl) (by conv => lhs; whnf)) rfl rfl rfl ?_)) | ((with_reducible refine AD.k_unOp ?_); first | refine AD.q rfl (OQ.not rfl) rfl rfl rfl ?_ | refine AD.qc rfl rfl (by with_reducible rfl) (OQ.not rfl) rfl rfl rfl ?_)); (conv => (arg 10; try tactic => exact nrm)))
      | (refine AD.bs rfl (fun hc => ?_) (fun hc => ?_) <;> (fail_if_success (with_reducible exact lit_no hc)) <;> (try simp only [decide_eq_true_eq, decide_eq_false_iff_not, Bool.not_true, Bool.not_false, Bool.not_eq_true', Bool.not_eq_false', Int.not_lt, Int.not_le, Classical.not_not, ne_eq] at hc) <;> first | (exfalso; first | contradiction | (first | omega | (simp at *; done)); done) | (conv => (arg 10; try tactic => exact nrm)))
      | (refine AD.gs1 rfl rfl (fun hc => ?_) (fun hc => ?_) <;> (fail_if_success (with_reducible exact lit_no hc)) <;> (try simp only [decide_eq_true_eq, decide_eq_false_iff_not, Bool.not_true, Bool.not_false, Bool.not_eq_true', Bool.not_eq_false', Int.not_lt, Int.not_le, Classical.not_not, ne_eq] at hc) <;> first | (exfalso; first | contradiction | (first | omega | (simp at *; done)); done) | (conv => (arg 10; try tactic => exact nrm)))
      | (refine AD.gs0 rfl rfl (fun hc => ?_) (fun hc => ?_) <;> (fail_if_success (with_reducible exact lit_no hc)) <;> (try simp only [decide_eq_true_eq, decide_eq_false_iff_not, Bool.not_true, Bool.not_false, Bool.not_eq_true', Bool.not_eq_false', Int.not_lt, Int.not_le, Classical.not_not, ne_eq] at hc) <;> first | (exfalso; first | contradiction | (first | omega | (simp at *; done)); done) | (conv => (arg 10; try tactic => exact nrm)))
      | (refine AD.nil ?_; (conv => (arg 4; simp only [List.drop_succ_cons, List.drop_zero, List.drop_nil])); (conv => (arg 5; try tactic => exact nrm)); (conv => (arg 6; try tactic => exact nrm))))
    | ((with_reducible refine AF.on ?_); first
      | ((first | ((with_reducible refine AF.k_move ?_); first | (refine AF.q 0 (SW.q (OQ.move (by conv => lhs; whnf)) rfl) ?_)) | ((with_reducible refine AF.k_load ?_); first | (refine AF.ql rfl (SW.q (OQ.load1 (ty := 3) rfl (by kernel_rfl) (by conv => lhs; whnf)) rfl) ?_) | (refine AF.ql rfl (SW.q (OQ.load1 (ty := 22) rfl (by kernel_rfl) (by conv => lhs; whnf)) rfl) ?_) | refine AF.ql rfl (SW.q (OQ.loadN (ty := 24) (n := 2) rfl (by kernel_rfl) (by kernel_rfl) rfl) rfl) ?_ | refine AF.ql rfl (SW.q (OQ.loadN (ty := 65) (n := 3) rfl (by kernel_rfl) (by kernel_rfl) rfl) rfl) ?_) | ((with_reducible refine AF.k_binOp ?_); first | refine AF.q 0 (SW.q (OQ.subi rfl rfl (by omega)) rfl) ?_ | refine AF.q 0 (SW.q (OQ.sub rfl rfl) rfl) ?_ | refine AF.q 0 (SW.q (OQ.muli rfl rfl (by omega)) rfl) ?_ | refine AF.q 0 (SW.q (OQ.mul rfl rfl) rfl) ?_ | refine AF.q 0 (SW.q (OQ.addi rfl rfl (by omega)) rfl) ?_ | refine AF.q 0 (SW.q (OQ.add rfl rfl) rfl) ?_) | ((with_reducible refine AF.k_indexAddr ?_); first | refine AF.q 0 (SW.q (OQ.idxPtr (ty := 65) (n := 1) (l := 3) (g := false) rfl rfl (by kernel_rfl) (by omega) (by omega)) rfl) ?_ | refine AF.q 0 (SW.q (OQ.idxAddr (ty := 22) (z := 4) (g := true) rfl rfl (by kernel_rfl) (by omega) (by omega)) rfl) ?_ | refine AF.q 0 (SW.q (OQ.idxPtr (ty := 29) (n := 2) (l := 3) (g := true) rfl rfl (by kernel_rfl) (by omega) (by omega)) rfl) ?_) | ((with_reducible refine AF.k_fieldAddr ?_); first | refine AF.q 0 (SW.q (OQ.fieldA (ty := 24) (i := 1) (n := 1) (off := 1) (g := false) rfl (by kernel_rfl) (by decide)) rfl) ?_ | refine AF.q 0 (SW.q (OQ.fieldA (ty := 85) (i := 0) (n := 1) (off := 0) (g := false) rfl (by kernel_rfl) (by decide)) rfl) ?_ | refine AF.q 0 (SW.q (OQ.fieldA (ty := 85) (i := 1) (n := 1) (off := 1) (g := false) rfl (by kernel_rfl) (by decide)) rfl) ?_ | refine AF.q 0 (SW.q (OQ.fieldA (ty := 28) (i := 0) (n := 1) (off := 0) (g := false) rfl (by kernel_rfl) (by decide)) rfl) ?_) | ((with_reducible refine AF.k_assign ?_); first | (refine AF.q 0 (SW.q (OQ.assign (by conv => lhs; whnf)) rfl) ?_)) | ((with_reducible refine AF.k_extract ?_); first | refine AF.q 0 (SW.q (OQ.extract rfl rfl) rfl) ?_) | ((with_reducible refine AF.k_build ?_); first | refine AF.q 0 (SW.q (OQ.buildA (ty := 65) (zs := [.int .i64 0, .int .i64 0, .int .i64 0]) (n := 1) (k := 3) (g := false) (by kernel_rfl) rfl (by kernel_rfl) rfl rfl rfl) rfl) ?_)); (conv => (arg 9; try tactic => exact nrmF)); (conv => (arg 11; try simp only [List.nil_append, List.cons_append])))
      | ((first | ((with_reducible refine AF.k_call ?_); first | refine AF.n1 2 (SW.acall (g := 18) rfl (by kernel_rfl) rfl ((HY _ _ (.blk 0 _ rfl rfl rfl))) rfl) rfl ?_) | ((with_reducible refine AF.k_store ?_); first | (refine AF.sl rfl (SW.w (OW.store (ty := 3) (n := 1) rfl (by conv => lhs; whnf) rfl rfl (by kernel_rfl) rfl rfl (by decide) rfl (Nat.le_of_ble_eq_true rfl) (by intro r h; cases h)) rfl) rfl ?_))); (conv => (arg 9; try tactic => exact nrmF)); (conv => (arg 11; try simp only [List.nil_append, List.cons_append])); (conv => (arg 10; try tactic => exact nrmF)))
      | (refine AF.nil ?_ (by kernel_rfl); (conv => (arg 4; simp only [List.drop_succ_cons, List.drop_zero, List.drop_nil]))))
    | ((with_reducible refine FinP.on ?_); (first | refine FinP.ret (.tmp (by conv => lhs; whnf) .nil) ?_ rfl | refine FinP.end (.tmp (by conv => lhs; whnf) .nil) ?_ rfl); (try simp only [pack, List.drop, List.take]); all_goals ((first | rfl | (congr 1; (first | exact decide_eq_true (by omega) | exact (decide_eq_true (by omega)).symm))))))
theorem OrL_y {l : List Ep} (nm : ByteArray) (hn : nm.size ≤ 1000) (hl : l.length ≤ 1000) (hf : narB nm.data.toList l = true) (hn1 : 1 ≤ l.length ∧ l.length ≤ 8) (hbd : ∀ k, k < l.length → (0 ≤ (ep l k).d ∧ (ep l k).d ≤ 100000) ∧ (0 ≤ (ep l k).d - (ep l 0).d ∧ (ep l k).d - (ep l 0).d ≤ 60) ∧ -20 ≤ (ep l k).b ∧ (ep l k).b ≤ 20) (a b c : Int) (F : List (Int × Int)) (D : Int) (hD : 0 < D ∧ D ≤ 1000000000000)
    (H1 : ∀ (m : Mem) (i : Nat) (k : Blk), m.at i = some k → k.cells = flatE l → ACalls Try.prog 44 [srI nm i l.length] m (.tuple #[.slice (some ⟨m.length, 0, none⟩) l.length INF, .int .i64 0]) (m ++ [some ⟨flatF F, true, 2⟩]))
    (n0 n1 n2 n3 n4 n5 n6 n7 g0 g1 g2 f0 f1 f2 : Int)
    (H2 : ∀ (m : Mem) (i : Nat) (k : Blk), m.at i = some k → k.cells = flatE l → PCalls Try.prog 50 [srI nm i l.length] m (.tuple #[.agg #[.int .i64 n0, .int .i64 n1, .int .i64 n2, .int .i64 n3, .int .i64 n4, .int .i64 n5, .int .i64 n6, .int .i64 n7, .int .i64 l.length], .agg #[.int .i64 g0, .int .i64 g1, .int .i64 g2]]))
    (H3 : ∀ (m : Mem) (i : Nat) (k : Blk), m.at i = some k → k.cells = flatE l → PCalls Try.prog 51 [srI nm i l.length] m (.agg #[.int .i64 f0, .int .i64 f1, .int .i64 f2, .int .i64 D]))
    (nu dn P0 P1 P2 : Nat → Int) (hF : ∀ k, k < l.length → (flatF F)[k * 2]? = some (.int .i64 (nu k)) ∧ (flatF F)[k * 2 + 1]? = some (.int .i64 (dn k)))
    (hdn : ∀ k, k < l.length → (1 ≤ dn k ∧ dn k ≤ D) ∧ D % dn k = 0 ∧ (-10000 * dn k ≤ nu k ∧ nu k ≤ 10000 * dn k) ∧ -566000000000000 ≤ nu k * (D / dn k) ∧ nu k * (D / dn k) ≤ 566000000000000)
    (hz : P0 0 = 0 ∧ P1 0 = 0 ∧ P2 0 = 0) (hP0 : ∀ k, k < l.length → P0 (k + 1) = P0 k + nu k * (D / dn k) * ((ep l k).d - (ep l 0).d)) (hP1 : ∀ k, k < l.length → P1 (k + 1) = P1 k + nu k * (D / dn k) * (ep l k).b) (hP2 : ∀ k, k < l.length → P2 (k + 1) = P2 k + nu k * (D / dn k))
    (he : P0 l.length = 0 ∧ P1 l.length = 0 ∧ P2 l.length = 0)
    (x y p q s t g : Int) (hg : g = 0 ∨ g = 8)
    (H4 : ∀ (m : Mem) (i : Nat) (bk : Blk), m.at i = some bk → bk.cells = flatE l → PCalls Try.prog 17 [srI nm i l.length] m (.tuple #[.agg #[.int .i64 x, .int .i64 y, .int .i64 p, .int .i64 q, .int .i64 s, .int .i64 t], .int .i64 g]))
    (e1 e2 s1 s2 : Int)
    (H5 : ∀ (m : Mem) (i : Nat) (bk : Blk), m.at i = some bk → bk.cells = flatE l → PCalls Try.prog 34 [srI nm i l.length, pV x p s] m (.tuple #[.int .i64 s1, .int .i64 e1]))
    (H6 : ∀ (m : Mem) (i : Nat) (bk : Blk), m.at i = some bk → bk.cells = flatE l → PCalls Try.prog 34 [srI nm i l.length, pV a b c] m (.tuple #[.int .i64 s2, .int .i64 e2]))
    (hk : g = 0 → y = 1 → q = 1 → t = 1 → e1 = 0 → e2 = 0 → s1 ≤ s2) (z0 : Nat) :
    PCalls Try.prog 10 [srI nm 0 l.length, pV a b c] [some ⟨flatE l, false, z0⟩] (.bool true) := by
  have HA := awake_q
  have HF := fun (m : Mem) (v : Value) (hS : SlE m v l) => Narrow_q hS (nm := nm) (by omega) (by omega)
  rw [hf] at HF
  have HY := fun (m : Mem) (v : Value) (hS : SlE m v l) => Copy_q nm hS hl
  have HW1 : ∀ (k : Nat), k < l.length → ∀ m : Mem, PCalls Try.prog 24 [.int .i64 (dn k), .int .i64 1, .int .i64 D] m (.bool true) := fun k hk m => by
    have := rWithin_q (dn k) 1 D m
    rwa [rngB_true.2 (hdn k hk).1] at this
  have HW2 : ∀ (k : Nat), k < l.length → ∀ m : Mem, PCalls Try.prog 24 [.int .i64 (nu k), .int .i64 (-10000 * dn k), .int .i64 (10000 * dn k)] m (.bool true) := fun k hk m => by
    have := rWithin_q (nu k) (-10000 * dn k) (10000 * dn k) m
    rwa [rngB_true.2 (hdn k hk).2.2.1] at this
  have HM : ∀ (k : Nat), k < l.length → ∀ m : Mem, PCalls Try.prog 40 [.int .i64 D, .int .i64 (dn k)] m (.int .i64 0) := fun k hk m => by
    have := Mod_q D (dn k) (by have := (hdn k hk).1; omega) m
    rwa [(hdn k hk).2.1] at this
  have HL : ∀ (k : Nat), k < l.length → ∀ m : Mem, PCalls Try.prog 25 [.int .i64 D, .int .i64 (dn k)] m (.int .i64 (D / dn k)) := fun k hk m => rFloor_q D (dn k) (by have := (hdn k hk).1; omega) (by omega) m
  have hpb : ∀ k, k ≤ l.length → (-(k * 34000000000000000) ≤ P0 k ∧ P0 k ≤ k * 34000000000000000) ∧ (-(k * 34000000000000000) ≤ P1 k ∧ P1 k ≤ k * 34000000000000000) ∧ -(k * 34000000000000000) ≤ P2 k ∧ P2 k ≤ k * 34000000000000000 := by
    intro k
    induction k with
    | zero => intro _; rw [hz.1, hz.2.1, hz.2.2]; omega
    | succ k ih =>
      intro hk
      have h1 := ih (by omega)
      have h2 := (hdn k (by omega)).2.2.2
      have h3 := hbd k (by omega)
      have m1 := mulc (A := 566000000000000) (B := 60) 33960000000000000 h2 (b := (ep l k).d - (ep l 0).d) (by omega) (by decide)
      have m2 := mulc (A := 566000000000000) (B := 20) 11320000000000000 h2 (b := (ep l k).b) (by omega) (by decide)
      rw [hP0 k (by omega), hP1 k (by omega), hP2 k (by omega)]
      omega
  have hmb : ∀ k, k < l.length → (-33960000000000000 ≤ nu k * (D / dn k) * ((ep l k).d - (ep l 0).d) ∧ nu k * (D / dn k) * ((ep l k).d - (ep l 0).d) ≤ 33960000000000000) ∧ -11320000000000000 ≤ nu k * (D / dn k) * (ep l k).b ∧ nu k * (D / dn k) * (ep l k).b ≤ 11320000000000000 := fun k hk => by
    have h2 := (hdn k (by omega)).2.2.2
    have h3 := hbd k (by omega)
    exact ⟨mulc (A := 566000000000000) (B := 60) 33960000000000000 h2 (b := (ep l k).d - (ep l 0).d) (by omega) (by decide), mulc (A := 566000000000000) (B := 20) 11320000000000000 h2 (b := (ep l k).b) (by omega) (by decide)⟩
  have q0 : ∀ k : Nat, k < l.length → (flatE l)[k * 4]? = some (.int .i64 (ep l k).d) := fun k hk => flatE_get l k 0 (by decide) hk
  have q00 := flatE_get0 l hn1.1
  have q1 : ∀ k : Nat, k < l.length → (flatE l)[k * 4 + 1]? = some (.int .i64 (ep l k).b) := fun k hk => flatE_get l k 1 (by decide) hk
  have hb0 := hbd 0 (by omega)
  refine PCalls.enterJ (t := [srI nm 0 l.length, pV a b c, undef, undef, undef, undef, undef, undef, undef, undef, undef, undef, undef, undef, undef, undef, undef, undef, undef, undef, undef, undef, undef, undef, undef, undef, undef, undef, undef, undef, undef, undef, undef, undef, undef, undef, undef, undef, undef, undef, undef, undef, undef, undef, undef, undef, undef, undef, undef, undef, undef, undef, undef, undef, undef, undef, undef, undef, undef, undef, undef, undef, undef, undef, undef, undef, undef, undef, undef, undef, undef, undef, undef, undef, undef, undef, undef, undef, undef, undef, undef, undef, undef, undef, undef, undef, undef, undef, undef, undef, undef, undef, undef, undef, undef, undef, undef, undef, undef, undef, undef, undef, undef, undef, undef, undef, undef, undef, undef, undef, undef, undef, undef, undef, undef, undef, undef, undef, undef, undef, undef, undef, undef, undef, undef, undef, undef, undef, undef, undef, undef, undef, undef, undef, undef, undef, undef, undef, undef, undef, undef, undef, undef, undef, undef, undef, undef, undef, undef, undef, undef, undef, undef, undef, undef, undef, undef, undef, undef, undef, undef, undef, undef, undef, undef, undef, undef, undef, undef, undef, undef, undef, undef, undef, undef, undef, undef, undef, undef, undef, undef, undef, undef, undef, undef, undef, undef, undef, undef, undef, undef, undef, undef, undef, undef, undef, undef, undef, undef, undef, undef, undef, undef, undef, undef, undef, undef, undef, undef, undef, undef, undef, undef, undef, undef, undef, undef, undef, undef, undef, undef, undef, undef, undef, undef, undef]) Try.func10 rfl (ro1 _ rfl) rfl fun E hE => ?_
  repeat' (first
    | with_reducible refine Then.n ?_
    | with_reducible refine Then.r ?_
    | with_reducible refine Then.x ?_
    | with_reducible refine InB.n ?_
    | with_reducible refine InB.r ?_
    | with_reducible refine InB.hit ?_
    | with_reducible refine InB.miss (by decide) ?_
    | ((with_reducible refine AL.on ?_); first
      | (refine AL.gd rfl ?_; first | (refine AL.gskip rfl rfl ?_; (conv => (arg 5; try tactic => exact nrm))) | (refine AL.gs1 rfl rfl (fun hc => ?_) (fun hc => ?_) <;> (try simp only [decide_eq_true_eq, decide_eq_false_iff_not, Bool.not_true, Bool.not_false, Bool.not_eq_true', Bool.not_eq_false', Int.not_lt, Int.not_le, Classical.not_not, ne_eq] at hc) <;> first | (exfalso; first | contradiction | (first | omega | (simp at *; done)); done) | (conv => (arg 5; try tactic => exact nrm))) | (refine AL.gs0 rfl rfl (fun hc => ?_) (fun hc => ?_) <;> (try simp only [decide_eq_true_eq, decide_eq_false_iff_not, Bool.not_true, Bool.not_false, Bool.not_eq_true', Bool.not_eq_false', Int.not_lt, Int.not_le, Classical.not_not, ne_eq] at hc) <;> first | (exfalso; first | contradiction | (first | omega | (simp at *; done)); done) | (conv => (arg 5; try tactic => exact nrm))))
      | ((first | ((with_reducible refine AL.k_move ?_); first | (refine AL.q rfl (OQ.move (by conv => lhs; whnf)) ?_)) | ((with_reducible refine AL.k_load ?_); first | refine AL.q rfl (OQ.loadN (ty := 24) (n := 2) rfl (by kernel_rfl) (by kernel_rfl) (by first | (first | exact q0 _ (by omega) | exact q1 _ (by omega) | exact q00 | exact (hF _ (by omega)).1 | exact (hF _ (by omega)).2) | rfl)) ?_ | (refine AL.q rfl (OQ.load1 (ty := 22) rfl (by kernel_rfl) (by first | (first | exact q0 _ (by omega) | exact q1 _ (by omega) | exact q00 | exact (hF _ (by omega)).1 | exact (hF _ (by omega)).2) | (conv => lhs; whnf))) ?_) | (refine AL.q rfl (OQ.load1 (ty := 3) rfl (by kernel_rfl) (by first | (first | exact q0 _ (by omega) | exact q1 _ (by omega) | exact q00 | exact (hF _ (by omega)).1 | exact (hF _ (by omega)).2) | (conv => lhs; whnf))) ?_) | refine AL.q rfl (OQ.loadN (ty := 65) (n := 3) rfl (by kernel_rfl) (by kernel_rfl) (by first | (first | exact q0 _ (by omega) | exact q1 _ (by omega) | exact q00 | exact (hF _ (by omega)).1 | exact (hF _ (by omega)).2) | rfl)) ?_) | ((with_reducible refine AL.k_binOp ?_); first | refine AL.q rfl (OQ.neq rfl rfl) ?_ | refine AL.q rfl (OQ.eql rfl rfl) ?_ | refine AL.q rfl (OQ.leq rfl rfl) ?_ | refine AL.q rfl (OQ.lss rfl rfl) ?_ | refine AL.q rfl (OQ.addi rfl rfl (by omega)) ?_ | refine AL.q rfl (OQ.add rfl rfl) ?_ | refine AL.q rfl (nel_t65 rfl rfl) ?_) | ((with_reducible refine AL.k_assign ?_); first | (refine AL.q rfl (OQ.assign (by conv => lhs; whnf)) ?_)) | ((with_reducible refine AL.k_call ?_); first | refine AL.q rfl (OQ.lenS (xt := 87) (r := (none, 2, true)) rfl (by kernel_rfl)) ?_ | refine AL.q rfl (OQ.lenS (xt := 22) (r := (none, 4, true)) rfl (by kernel_rfl)) ?_) | ((with_reducible refine AL.k_pick ?_); first | (refine AL.q rfl (OQ.pickT rfl (by with_reducible rfl) (by conv => lhs; whnf)) ?_) | (refine AL.q rfl (OQ.pickF rfl (by with_reducible rfl) (by conv => lhs; whnf)) ?_)) | ((with_reducible refine AL.k_extract ?_); first | refine AL.q rfl (OQ.extract rfl rfl) ?_) | ((with_reducible refine AL.k_unOp ?_); first | refine AL.q rfl (OQ.not rfl) ?_) | ((with_reducible refine AL.k_field ?_); first | refine AL.q rfl (OQ.field1 (ty := 101) (i := 1) (n := 1) (off := 3) rfl (by kernel_rfl) rfl) ?_)); (conv => (arg 5; try tactic => exact nrm)))
      | ((first | ((with_reducible refine AL.k_indexAddr ?_); first | refine AL.q rfl (OQ.idxPtr (ty := 97) (n := 1) (l := 9) (g := false) rfl rfl (by kernel_rfl) (by omega) (by omega)) ?_ | refine AL.q rfl (OQ.idxPtr (ty := 65) (n := 1) (l := 3) (g := false) rfl rfl (by kernel_rfl) (by omega) (by omega)) ?_ | refine AL.q rfl (OQ.idxPtr (ty := 29) (n := 2) (l := 3) (g := true) rfl rfl (by kernel_rfl) (by omega) (by omega)) ?_) | ((with_reducible refine AL.k_call ?_); first | refine AL.pcall (g := 15) rfl (by kernel_rfl) rfl (HA _) ?_ | refine AL.pcall (g := 49) rfl (by kernel_rfl) rfl (HF _ _ (.blk 0 _ rfl rfl rfl)) ?_ | refine AL.pcall (g := 50) rfl (by kernel_rfl) rfl (H2 _ _ _ rfl rfl) ?_ | refine AL.pcall (g := 51) rfl (by kernel_rfl) rfl (H3 _ _ _ rfl rfl) ?_ | refine AL.pcall (g := 17) rfl (by kernel_rfl) rfl (H4 _ _ _ rfl rfl) ?_) | ((with_reducible refine AL.k_fieldAddr ?_); first | refine AL.q rfl (OQ.fieldA (ty := 24) (i := 1) (n := 1) (off := 1) (g := false) rfl (by kernel_rfl) (by decide)) ?_ | refine AL.q rfl (OQ.fieldA (ty := 28) (i := 1) (n := 1) (off := 1) (g := false) rfl (by kernel_rfl) (by decide)) ?_) | ((with_reducible refine AL.k_build ?_); first | refine AL.q rfl (OQ.buildA (ty := 65) (zs := [.int .i64 0, .int .i64 0, .int .i64 0]) (n := 1) (k := 3) (g := false) (by kernel_rfl) rfl (by kernel_rfl) rfl rfl rfl) ?_)); (conv => (arg 5; try tactic => exact nrm)))
      | ((first | ((with_reducible refine AL.k_call ?_); first | refine AL.acall (g := 18) rfl (by kernel_rfl) rfl ((HY _ _ (.blk 0 _ rfl rfl rfl))) ?_ | refine AL.acall (g := 44) rfl (by kernel_rfl) rfl ((H1 _ _ _ rfl rfl)) ?_) | ((with_reducible refine AL.k_store ?_); first | (refine AL.w rfl (OW.store (ty := 97) (n := 9) rfl (by conv => lhs; whnf) rfl rfl (by kernel_rfl) rfl rfl (by decide) rfl (Nat.le_of_ble_eq_true rfl) (by intro r h; cases h)) ?_) | (refine AL.w rfl (OW.store (ty := 65) (n := 3) rfl (by conv => lhs; whnf) rfl rfl (by kernel_rfl) rfl rfl (by decide) rfl (Nat.le_of_ble_eq_true rfl) (by intro r h; cases h)) ?_) | (refine AL.w rfl (OW.store (ty := 3) (n := 1) rfl (by conv => lhs; whnf) rfl rfl (by kernel_rfl) rfl rfl (by decide) rfl (Nat.le_of_ble_eq_true rfl) (by intro r h; cases h)) ?_) | (refine AL.w rfl (OW.store (ty := 29) (n := 6) rfl (by conv => lhs; whnf) rfl rfl (by kernel_rfl) rfl rfl (by decide) rfl (Nat.le_of_ble_eq_true rfl) (by intro r h; cases h)) ?_)) | ((with_reducible refine AL.k_alloc ?_); first | refine AL.w rfl (OW.alloc (ty := 97) (z := [.int .i64 0, .int .i64 0, .int .i64 0, .int .i64 0, .int .i64 0, .int .i64 0, .int .i64 0, .int .i64 0, .int .i64 0]) (by kernel_rfl) rfl) ?_ | refine AL.w rfl (OW.alloc (ty := 65) (z := [.int .i64 0, .int .i64 0, .int .i64 0]) (by kernel_rfl) rfl) ?_ | refine AL.w rfl (OW.alloc (ty := 29) (z := [.int .i64 0, .int .i64 0, .int .i64 0, .int .i64 0, .int .i64 0, .int .i64 0]) (by kernel_rfl) rfl) ?_) | ((with_reducible refine AL.k_box ?_); first | (refine AL.w rfl (OW.box (by conv => lhs; whnf) (by intro r h; cases h)) ?_))); (conv => (arg 5; try tactic => exact nrm)); (conv => (arg 6; try tactic => exact nrm)))
      | (refine AL.bs rfl (fun hc => ?_) (fun hc => ?_) <;> (fail_if_success (with_reducible exact lit_no hc)) <;> (try simp only [decide_eq_true_eq, decide_eq_false_iff_not, Bool.not_true, Bool.not_false, Bool.not_eq_true', Bool.not_eq_false', Int.not_lt, Int.not_le, Classical.not_not, ne_eq] at hc) <;> first | (exfalso; first | contradiction | (first | omega | (simp at *; done)); done) | (conv => (arg 5; try tactic => exact nrm)))
      | refine AL.nil ?_)
    | ((with_reducible refine AW.on ?_); first
      | refine AW.seq ?_
      | refine AW.skip ?_
      | refine AW.exit ?_
      | refine AW.ret ?_
      | ((refine AW.block (id := 0) ?_); (refine AW.wk (Wk.forget [false, false, true, true, false, true, false, false, false, true, true, true, false, false, false, false, false, false, false, false, false, false, false, false, false, false, false, false, false, false, false, false, false, false, false, false, false, false, false, false, false, false, false, false, false, false, false, false, false, false, false, false, false, false, false, false, false, false, false, false, false, false, false, false, false, false, false, false, false, false, false, false, false, false, false, false, false, false, false, false, false, false, false, false, false, false, false, false, false, false, false, false, false, false, false, false, false, false, false, false, false, false, false, false, false, false, false, false, false, false, false, false, false, false, false, false, false, false, false, false, false, false, false, false, false, false, false, false, false, false, false, false, false, false, false, false, false, false, false, false, false, false, false, false, false, false, false, false, false, false, false, false, false, false, false, false, false, false, false, false, false, false, false, false, false, false, false, false, false, false, false, false, false, false, false, false, false, false, false, false, false, false, false, false, false, false, false, false, false, false, false, false, false, false, false, false, false, false, false, false, false, false, false, false, false, false, false, false, false, false, false, false, false, false, false, false, false, false, false, false, false, false, false, false, false, false] rfl) ?_); (conv => (arg 4; simp only [fgt, if_true, if_false, Bool.false_eq_true])); (refine AW.loop (fun n t' m => ∃ k : Nat, n = l.length - k ∧ k ≤ l.length ∧ t' = [junk, junk, .pointer (some ⟨1, 0, none⟩), .pointer (some ⟨2, 0, none⟩), junk, .slice (some ⟨4, 0, none⟩) (l.length) INF, junk, junk, junk, .int .i64 (D), .pointer (some ⟨7, 0, none⟩), .int .i64 (k), junk, junk, junk, junk, junk, junk, junk, junk, junk, junk, junk, junk, junk, junk, junk, junk, junk, junk, junk, junk, junk, junk, junk, junk, junk, junk, junk, junk, junk, junk, junk, junk, junk, junk, junk, junk, junk, junk, junk, junk, junk, junk, junk, junk, junk, junk, junk, junk, junk, junk, junk, junk, junk, junk, junk, junk, junk, junk, junk, junk, junk, junk, junk, junk, junk, junk, junk, junk, junk, junk, junk, junk, junk, junk, junk, junk, junk, junk, junk, junk, junk, junk, junk, junk, junk, junk, junk, junk, junk, junk, junk, junk, junk, junk, junk, junk, junk, junk, junk, junk, junk, junk, junk, junk, junk, junk, junk, junk, junk, junk, junk, junk, junk, junk, junk, junk, junk, junk, junk, junk, junk, junk, junk, junk, junk, junk, junk, junk, junk, junk, junk, junk, junk, junk, junk, junk, junk, junk, junk, junk, junk, junk, junk, junk, junk, junk, junk, junk, junk, junk, junk, junk, junk, junk, junk, junk, junk, junk, junk, junk, junk, junk, junk, junk, junk, junk, junk, junk, junk, junk, junk, junk, junk, junk, junk, junk, junk, junk, junk, junk, junk, junk, junk, junk, junk, junk, junk, junk, junk, junk, junk, junk, junk, junk, junk, junk, junk, junk, junk, junk, junk, junk, junk, junk, junk, junk, junk, junk, junk, junk, junk, junk, junk, junk] ∧ m = [some ⟨flatE l, false, z0⟩, some ⟨[.string nm, .slice (some ⟨0, 0, none⟩) (l.length) INF], true, 0⟩, some ⟨[.int .i64 (a), .int .i64 (b), .int .i64 (c)], true, 0⟩, some ⟨flatE l, true, 4⟩, some ⟨flatF F, true, 2⟩, some ⟨[.int .i64 (n0), .int .i64 (n1), .int .i64 (n2), .int .i64 (n3), .int .i64 (n4), .int .i64 (n5), .int .i64 (n6), .int .i64 (n7), .int .i64 (l.length)], true, 0⟩, some ⟨[.int .i64 (g0), .int .i64 (g1), .int .i64 (g2)], true, 0⟩, some ⟨[.int .i64 (P0 k), .int .i64 (P1 k), .int .i64 (P2 k)], true, 0⟩]) (l.length) (by exact ⟨0, rfl, Nat.zero_le _, rfl, by first | (rw [hz.1, hz.2.1, hz.2.2]; done) | (rw [hz.1, hz.2.1, hz.2.2]; rfl)⟩) ?_); (rintro n t' m ⟨k, rfl, hkl, rfl, rfl⟩))
      | refine AW.block ?_
      | (refine AW.draw (id := 16) 39 #[0, 0, 3, 7, 15, 0, 63, 127, 255, 511, 511, 511, 3583, 7679, 15871, 32767, 65535, 131071, 262143, 524287, 524287, 2097151, 4194303, 8388607, 524287, 524287, 50855935, 117964799, 252182527, 520617983, 524287, 524287, 3221749759, 7516717055, 16106651647, 33286520831, 68719476735, 137438953471, 274877906943] (by kernel_rfl) (by kernel_rfl) ?_; (conv => (arg 8; simp only [List.take_succ_cons, List.take_zero])); ((have hf1 := hdn k (by omega); have hb := hbd k (by omega); have hp := hpb k hkl; have hm := hmb k (by omega))))
      | (refine AW.draw (id := 18) 14 #[0, 0, 3, 7, 15, 0, 0, 0, 192, 448, 960, 2016, 4095, 8191] (by kernel_rfl) (by kernel_rfl) ?_; (conv => (arg 8; simp only [List.take_succ_cons, List.take_zero])))
      | (refine AW.drawF (id := 19) 36 #[0, 1, 0, 0, 8, 0, 56, 120, 248, 0, 512, 1536, 3584, 7680, 16376, 32764, 65535, 0, 131072, 0, 0, 1048576, 0, 7340032, 15728640, 32505856, 66584576, 134086656, 0, 268435456, 0, 1879048192, 805830655, 5100797951, 13958643711, 31138512895, 68719476735, 137438953471] (by kernel_rfl) (by kernel_rfl) ?_; (conv => (arg 8; simp only [List.take_succ_cons, List.take_zero])))
      | (refine AW.drawF (id := 25) 17 #[0, 1, 0, 4, 12, 0, 32, 96, 0, 256, 768, 2044, 4095, 8191, 16383, 16383, 32767, 131071] (by kernel_rfl) (by kernel_rfl) ?_; (conv => (arg 8; simp only [List.take_succ_cons, List.take_zero])))
      | (refine AW.drawF (id := 26) 8 #[0, 1, 0, 7, 15, 31, 31, 63, 255] (by kernel_rfl) (by kernel_rfl) ?_; (conv => (arg 8; simp only [List.take_succ_cons, List.take_zero])))
      | (refine AW.region (id := 2) ?_; exfalso; first | omega | (simp at *; done); done)
      | (refine AW.region (id := 4) ?_; exfalso; first | omega | (simp at *; done); done)
      | (refine AW.region (id := 7) ?_; exfalso; first | omega | (simp at *; done); done)
      | (refine AW.region (id := 11) ?_; exfalso; first | omega | (simp at *; done); done)
      | (refine AW.region (id := 17) ?_; exfalso; first | omega | (simp at *; done); done)
      | (refine AW.region (id := 20) ?_; ((obtain rfl : k = l.length := (by omega); rw [he.1, he.2.1, he.2.2])))
      | (refine AW.region (id := 21) ?_; exfalso; first | omega | (simp at *; done); done)
      | refine AW.region ?_
      | (refine AW.conds rfl (fun hc => ?_) (fun hc => ?_) <;> (try simp only [decide_eq_true_eq, decide_eq_false_iff_not, Bool.not_true, Bool.not_false, Bool.not_eq_true', Bool.not_eq_false', Int.not_lt, Int.not_le, Classical.not_not, ne_eq] at hc) <;> first | (exfalso; first | contradiction | (first | omega | (simp at *; done)); done) | skip))
    | ((with_reducible refine AD.on ?_); first
      | (refine AD.gskip rfl rfl rfl ?_; (conv => (arg 10; try tactic => exact nrm)))
      | ((first | refine AD.gn1 rfl rfl (by with_reducible rfl) rfl ?_ | refine AD.gn0 rfl rfl (by with_reducible rfl) rfl ?_); (conv => (arg 10; try tactic => exact nrm)))
      | ((first | ((with_reducible refine AD.k_move ?_); first | (refine AD.q rfl (OQ.move (by conv => lhs; whnf)) rfl rfl rfl ?_) | (refine AD.qc rfl rfl (by with_reducible rfl) (OQ.move (by conv => lhs; whnf)) rfl rfl rfl ?_)) | ((with_reducible refine AD.k_load ?_); first | (refine AD.q rfl (OQ.load1 (ty := 3) rfl (by kernel_rfl) (by first | (first | exact q0 _ (by omega) | exact q1 _ (by omega) | exact q00 | exact (hF _ (by omega)).1 | exact (hF _ (by omega)).2) | (conv => lhs; whnf))) rfl rfl rfl ?_) | (refine AD.qc rfl rfl (by with_reducible rfl) (OQ.load1 (ty := 3) rfl (by kernel_rfl) (by first | (first | exact q0 _ (by omega) | exact q1 _ (by omega) | exact q00 | exact (hF _ (by omega)).1 | exact (hF _ (by omega)).2) | (conv => lhs; whnf))) rfl rfl rfl ?_)) | ((with_reducible refine AD.k_binOp ?_); first | refine AD.qc rfl rfl (by with_reducible rfl) (OQ.neq rfl rfl) rfl rfl rfl ?_ | refine AD.qc rfl rfl (by with_reducible rfl) (OQ.muli rfl rfl (by omega)) rfl rfl rfl ?_ | refine AD.qc rfl rfl (by with_reducible rfl) (OQ.mul rfl rfl) rfl rfl rfl ?_ | refine AD.q rfl (OQ.muli rfl rfl (by omega)) rfl rfl rfl ?_ | refine AD.q rfl (OQ.mul rfl rfl) rfl rfl rfl ?_) | ((with_reducible refine AD.k_assign ?_); first | (refine AD.q rfl (OQ.assign (by conv => lhs; whnf)) rfl rfl rfl ?_)) | ((with_reducible refine AD.k_pick ?_); first | (refine AD.q rfl (OQ.pickT rfl (by with_reducible rfl) (by conv => lhs; whnf)) rfl rfl rfl ?_) | (refine AD.q rfl (OQ.pickF rfl (by with_reducible rfl) (by conv => lhs; whnf)) rfl rfl rfl ?_)) | ((with_reducible refine AD.k_unOp ?_); first | refine AD.q rfl (OQ.not rfl) rfl rfl rfl ?_ | refine AD.qc rfl rfl (by with_reducible rfl) (OQ.not rfl) rfl rfl rfl ?_)); (conv => (arg 10; try tactic => exact nrm)))
      | ((first | ((with_reducible refine AD.k_indexAddr ?_); first | refine AD.q rfl (OQ.idxAddr (ty := 87) (z := 2) (g := true) rfl rfl (by kernel_rfl) (by omega) (by omega)) rfl rfl rfl ?_ | refine AD.qc rfl rfl (by with_reducible rfl) (OQ.idxAddr (ty := 87) (z := 2) (g := true) rfl rfl (by kernel_rfl) (by omega) (by omega)) rfl rfl rfl ?_) | ((with_reducible refine AD.k_fieldAddr ?_); first | refine AD.q rfl (OQ.fieldA (ty := 28) (i := 1) (n := 1) (off := 1) (g := false) rfl (by kernel_rfl) (by decide)) rfl rfl rfl ?_ | refine AD.qc rfl rfl (by with_reducible rfl) (OQ.fieldA (ty := 28) (i := 1) (n := 1) (off := 1) (g := false) rfl (by kernel_rfl) (by decide)) rfl rfl rfl ?_ | refine AD.qc rfl rfl (by with_reducible rfl) (OQ.fieldA (ty := 28) (i := 0) (n := 1) (off := 0) (g := false) rfl (by kernel_rfl) (by decide)) rfl rfl rfl ?_ | refine AD.q rfl (OQ.fieldA (ty := 28) (i := 0) (n := 1) (off := 0) (g := false) rfl (by kernel_rfl) (by decide)) rfl rfl rfl ?_) | ((with_reducible refine AD.k_call ?_); first | refine AD.pcall (g := 24) rfl (by kernel_rfl) rfl ((by first | exact HW1 _ (by omega) _ | exact HW2 _ (by omega) _)) rfl rfl ?_ | refine AD.pcallc (g := 40) rfl rfl (by with_reducible rfl) rfl (by kernel_rfl) rfl (HM _ (by omega) _) rfl rfl ?_ | refine AD.pcallc (g := 24) rfl rfl (by with_reducible rfl) rfl (by kernel_rfl) rfl ((by first | exact HW1 _ (by omega) _ | exact HW2 _ (by omega) _)) rfl rfl ?_ | refine AD.pcall (g := 25) rfl (by kernel_rfl) rfl (HL _ (by omega) _) rfl rfl ?_)); (conv => (arg 10; try tactic => exact nrm)))
      | (refine AD.bs rfl (fun hc => ?_) (fun hc => ?_) <;> (fail_if_success (with_reducible exact lit_no hc)) <;> (try simp only [decide_eq_true_eq, decide_eq_false_iff_not, Bool.not_true, Bool.not_false, Bool.not_eq_true', Bool.not_eq_false', Int.not_lt, Int.not_le, Classical.not_not, ne_eq] at hc) <;> first | (exfalso; first | contradiction | (first | omega | (simp at *; done)); done) | (conv => (arg 10; try tactic => exact nrm)))
      | (refine AD.gs1 rfl rfl (fun hc => ?_) (fun hc => ?_) <;> (fail_if_success (with_reducible exact lit_no hc)) <;> (try simp only [decide_eq_true_eq, decide_eq_false_iff_not, Bool.not_true, Bool.not_false, Bool.not_eq_true', Bool.not_eq_false', Int.not_lt, Int.not_le, Classical.not_not, ne_eq] at hc) <;> first | (exfalso; first | contradiction | (first | omega | (simp at *; done)); done) | (conv => (arg 10; try tactic => exact nrm)))
      | (refine AD.gs0 rfl rfl (fun hc => ?_) (fun hc => ?_) <;> (fail_if_success (with_reducible exact lit_no hc)) <;> (try simp only [decide_eq_true_eq, decide_eq_false_iff_not, Bool.not_true, Bool.not_false, Bool.not_eq_true', Bool.not_eq_false', Int.not_lt, Int.not_le, Classical.not_not, ne_eq] at hc) <;> first | (exfalso; first | contradiction | (first | omega | (simp at *; done)); done) | (conv => (arg 10; try tactic => exact nrm)))
      | (refine AD.nil ?_; (conv => (arg 4; simp only [List.drop_succ_cons, List.drop_zero, List.drop_nil])); (conv => (arg 5; try tactic => exact nrm)); (conv => (arg 6; try tactic => exact nrm))))
    | ((with_reducible refine AF.on ?_); first
      | ((first | ((with_reducible refine AF.k_move ?_); first | (refine AF.q 0 (SW.q (OQ.move (by conv => lhs; whnf)) rfl) ?_)) | ((with_reducible refine AF.k_load ?_); first | (refine AF.ql rfl (SW.q (OQ.load1 (ty := 3) rfl (by kernel_rfl) (by first | (first | exact q0 _ (by omega) | exact q1 _ (by omega) | exact q00 | exact (hF _ (by omega)).1 | exact (hF _ (by omega)).2) | (conv => lhs; whnf))) rfl) ?_) | (refine AF.ql rfl (SW.q (OQ.load1 (ty := 22) rfl (by kernel_rfl) (by first | (first | exact q0 _ (by omega) | exact q1 _ (by omega) | exact q00 | exact (hF _ (by omega)).1 | exact (hF _ (by omega)).2) | (conv => lhs; whnf))) rfl) ?_) | refine AF.ql rfl (SW.q (OQ.loadN (ty := 24) (n := 2) rfl (by kernel_rfl) (by kernel_rfl) (by first | (first | exact q0 _ (by omega) | exact q1 _ (by omega) | exact q00 | exact (hF _ (by omega)).1 | exact (hF _ (by omega)).2) | rfl)) rfl) ?_ | refine AF.ql rfl (SW.q (OQ.loadN (ty := 65) (n := 3) rfl (by kernel_rfl) (by kernel_rfl) (by first | (first | exact q0 _ (by omega) | exact q1 _ (by omega) | exact q00 | exact (hF _ (by omega)).1 | exact (hF _ (by omega)).2) | rfl)) rfl) ?_) | ((with_reducible refine AF.k_binOp ?_); first | refine AF.q 0 (SW.q (OQ.subi rfl rfl (by omega)) rfl) ?_ | refine AF.q 0 (SW.q (OQ.sub rfl rfl) rfl) ?_ | refine AF.q 0 (SW.q (OQ.muli rfl rfl (by omega)) rfl) ?_ | refine AF.q 0 (SW.q (OQ.mul rfl rfl) rfl) ?_ | refine AF.q 0 (SW.q (OQ.addi rfl rfl (by omega)) rfl) ?_ | refine AF.q 0 (SW.q (OQ.add rfl rfl) rfl) ?_) | ((with_reducible refine AF.k_indexAddr ?_); first | refine AF.q 0 (SW.q (OQ.idxPtr (ty := 65) (n := 1) (l := 3) (g := false) rfl rfl (by kernel_rfl) (by omega) (by omega)) rfl) ?_ | refine AF.q 0 (SW.q (OQ.idxAddr (ty := 22) (z := 4) (g := true) rfl rfl (by kernel_rfl) (by omega) (by omega)) rfl) ?_ | refine AF.q 0 (SW.q (OQ.idxPtr (ty := 29) (n := 2) (l := 3) (g := true) rfl rfl (by kernel_rfl) (by omega) (by omega)) rfl) ?_) | ((with_reducible refine AF.k_fieldAddr ?_); first | refine AF.q 0 (SW.q (OQ.fieldA (ty := 24) (i := 1) (n := 1) (off := 1) (g := false) rfl (by kernel_rfl) (by decide)) rfl) ?_ | refine AF.q 0 (SW.q (OQ.fieldA (ty := 85) (i := 0) (n := 1) (off := 0) (g := false) rfl (by kernel_rfl) (by decide)) rfl) ?_ | refine AF.q 0 (SW.q (OQ.fieldA (ty := 85) (i := 1) (n := 1) (off := 1) (g := false) rfl (by kernel_rfl) (by decide)) rfl) ?_ | refine AF.q 0 (SW.q (OQ.fieldA (ty := 28) (i := 0) (n := 1) (off := 0) (g := false) rfl (by kernel_rfl) (by decide)) rfl) ?_) | ((with_reducible refine AF.k_assign ?_); first | (refine AF.q 0 (SW.q (OQ.assign (by conv => lhs; whnf)) rfl) ?_)) | ((with_reducible refine AF.k_call ?_); first | refine AF.q 2 (SW.pcall (g := 34) rfl (by kernel_rfl) rfl ((by first | exact H5 _ _ _ rfl rfl | exact H6 _ _ _ rfl rfl)) rfl) ?_) | ((with_reducible refine AF.k_extract ?_); first | refine AF.q 0 (SW.q (OQ.extract rfl rfl) rfl) ?_) | ((with_reducible refine AF.k_build ?_); first | refine AF.q 0 (SW.q (OQ.buildA (ty := 65) (zs := [.int .i64 0, .int .i64 0, .int .i64 0]) (n := 1) (k := 3) (g := false) (by kernel_rfl) rfl (by kernel_rfl) rfl rfl rfl) rfl) ?_)); (conv => (arg 9; try tactic => exact nrmF)); (conv => (arg 11; try simp only [List.nil_append, List.cons_append])))
      | ((first | ((with_reducible refine AF.k_call ?_); first | refine AF.n1 2 (SW.acall (g := 18) rfl (by kernel_rfl) rfl ((HY _ _ (.blk 0 _ rfl rfl rfl))) rfl) rfl ?_) | ((with_reducible refine AF.k_store ?_); first | (refine AF.sl rfl (SW.w (OW.store (ty := 3) (n := 1) rfl (by conv => lhs; whnf) rfl rfl (by kernel_rfl) rfl rfl (by decide) rfl (Nat.le_of_ble_eq_true rfl) (by intro r h; cases h)) rfl) rfl ?_))); (conv => (arg 9; try tactic => exact nrmF)); (conv => (arg 11; try simp only [List.nil_append, List.cons_append])); (conv => (arg 10; try tactic => exact nrmF)))
      | (refine AF.nil ?_ (by kernel_rfl); (conv => (arg 4; simp only [List.drop_succ_cons, List.drop_zero, List.drop_nil]))))
    | ((with_reducible refine ex_on ?_); (refine ⟨l.length - (k + 1), _, _, by omega, ?_, k + 1, rfl, by omega, rfl, rfl⟩; exact Wk.keep 8 [] (by rw [hE]; exact (by decide : 1 ≤ 8)) rfl rfl (by repeat (first | exact RenT.nil | refine RenT.junk ?_ | refine RenT.val (by first | rfl | with_reducible assumption | (simp only [rn3, rn2, rn1, kσ]; done)) (by first | rfl | assumption | (simp [ok3, ok2, ok1]; done)) ?_)) ⟨⟨_, rfl, rfl, rfl, .inl ⟨rfl, flatE_scal l⟩⟩, ⟨_, rfl, rfl, rfl, .inr ⟨rfl, rfl⟩⟩, ⟨_, rfl, rfl, rfl, .inl ⟨rfl, rfl⟩⟩, ⟨_, rfl, rfl, rfl, .inl ⟨rfl, flatE_scal l⟩⟩, ⟨_, rfl, rfl, rfl, .inl ⟨rfl, flatF_scal _⟩⟩, ⟨_, rfl, rfl, rfl, .inl ⟨rfl, rfl⟩⟩, ⟨_, rfl, rfl, rfl, .inl ⟨rfl, rfl⟩⟩, ⟨_, rfl, rfl, rfl, .inl ⟨by rw [hP0 k (by omega), hP1 k (by omega), hP2 k (by omega)], rfl⟩⟩, trivial⟩))
    | ((with_reducible refine FinJ.on ?_); ((first | refine FinJ.ret (.tmp (by conv => lhs; whnf) .nil) ?_ | refine FinJ.end (.tmp (by conv => lhs; whnf) .nil) ?_); (refine (fun hh => hh ▸ jle_flat rfl : ∀ {x : Bool}, true = x → jle (.bool true) (pack [.bool x])) ?_); first | rfl | exact (decide_eq_true (by omega)).symm | exact (decide_eq_true (hk (by omega) (by omega) (by omega) (by omega) (by omega) (by omega))).symm)))
theorem sl_flat1 (N : Nm) : flat (.tuple #[slV N, .int .i64 (slE N)]) = true := by unfold slV thV; split <;> (try split) <;> rfl
theorem nm_zz (l : List Ep) : (NM l).zz = l.length := by
  unfold NM Go.Sr.nm rws
  simp only
  have : ∀ (d0 : Int) (L : List Ep), sm (fun r => r.z * r.z) (L.map fun e => (⟨e.d - d0, e.b, 1, e.p⟩ : Rw)) = L.length := fun d0 L => by
    induction L with
    | nil => rfl
    | cons e L ih => rw [List.map_cons, sm_cons, ih, List.length_cons]; show (1 : Int) * 1 + _ = _; omega
  exact this _ l
theorem fr_back {n d : Int} (hd : 0 < d) : (1 ≤ frD n d ∧ frD n d ≤ d) ∧ d % frD n d = 0 ∧ frN n d * (d / frD n d) = n := by
  have hp := gcd_pos (n := n) (show d ≠ 0 by omega)
  obtain ⟨x, hx⟩ : (Int.gcd n d : Int) ∣ n := Int.gcd_dvd_left ..
  obtain ⟨y, hy⟩ : (Int.gcd n d : Int) ∣ d := Int.gcd_dvd_right ..
  unfold frN frD frG
  rw [if_neg (by omega)]
  generalize (Int.gcd n d : Int) = g at *
  subst hx
  subst hy
  rw [Int.mul_tdiv_cancel_left _ (by omega), Int.mul_tdiv_cancel_left _ (by omega)]
  have hy : 0 < y := Int.pos_of_mul_pos_right hd (by omega)
  have := Int.mul_le_mul_of_nonneg_right (show 1 ≤ g by omega) (show 0 ≤ y by omega)
  refine ⟨by omega, Int.mul_emod_left _ _, ?_⟩
  rw [Int.mul_ediv_cancel _ (by omega), Int.mul_comm]
theorem frL_at (d : Int) (L : List Int) (k : Nat) (h : k < L.length) : (frL d L).getD k (0, 0) = (frN (L.getD k 0) d, frD (L.getD k 0) d) := by
  unfold frL
  rw [List.getD_eq_getElem?_getD, List.getElem?_map, List.getElem?_eq_getElem h, List.getD_eq_getElem?_getD, List.getElem?_eq_getElem h]
  rfl
theorem flatF_at (L : List (Int × Int)) (k : Nat) (h : k < L.length) : (flatF L)[k * 2]? = some (.int .i64 (L.getD k (0, 0)).1) ∧ (flatF L)[k * 2 + 1]? = some (.int .i64 (L.getD k (0, 0)).2) :=
  ⟨flat_get frC 2 (fun _ => rfl) (0, 0) L k 0 (by decide) h, flat_get frC 2 (fun _ => rfl) (0, 0) L k 1 (by decide) h⟩
theorem fr_one {n d : Int} (hd : 0 < d) (h : frD n d = 1) : frN n d * d = n := by
  have := (fr_back (n := n) hd).2.2
  rwa [h, Int.ediv_one] at this
theorem rs_every {l : List Ep} (h : allSm (NM l).det (rsT l l.length) = true) (k : Nat) (hk : k < l.length) : frSm (rsd (NM l) (rw_ (rws l) k)) (NM l).det = true := by
  have hlen := rsT_len l _ (Nat.le_refl _)
  refine List.all_eq_true.1 h _ ?_
  rw [← rsT_get l k hk, List.getD_eq_getElem?_getD, List.getElem?_eq_getElem (by rw [hlen]; exact hk)]
  exact List.getElem_mem _
theorem sqW_eq {x y z : Int} {l : List Ep} (h : sqE x y z = 0) : sqW x y z l = sqN x y z (rws l) (rws l).length := by
  unfold sqW
  rw [if_pos h, rws_len]
theorem OrL_r {l : List Ep} (nm : ByteArray) (hf : narB nm.data.toList l = true) (a b c : Int) (z0 : Nat) :
    PCalls Try.prog 10 [srI nm 0 l.length, pV a b c] [some ⟨flatE l, false, z0⟩] (.bool true) := by
  obtain ⟨hc, hl8, hnar⟩ := narB_p hf
  obtain ⟨hR, hN⟩ := srE_right hc
  have hn : nm.size ≤ 1000 := by
    have := nameB_len hN
    have : nm.data.toList.length = nm.size := by simp
    omega
  have hn1 := hR.n1
  have hl : l.length ≤ 1000 := by omega
  by_cases h0 : (NM l).det = 0
  · exact OrL_0 nm hn hl hf a b c 30 (.inl rfl) (fun m i k h1 h2 => PCalls.via1 (args0 := [srI nm 0 l.length]) (fun z => Residuals_0 hn hR hN h0 z) h1 h2 (flatE_scal l) rfl rfl rfl rfl) z0
  cases hs : allSm (NM l).det (rsT l l.length) with
  | false => exact OrL_0 nm hn hl hf a b c 8 (.inr rfl) (fun m i k h1 h2 => PCalls.via1 (args0 := [srI nm 0 l.length]) (fun z => ACalls.still (Residuals_n hn hR hN h0 hs z) (ro1 _ rfl) rfl) h1 h2 (flatE_scal l) rfl rfl rfl rfl) z0
  | true =>
    have hbd : ∀ k, k < l.length → (0 ≤ (ep l k).d ∧ (ep l k).d ≤ 100000) ∧ (0 ≤ (ep l k).d - (ep l 0).d ∧ (ep l k).d - (ep l 0).d ≤ 60) ∧ (-20 ≤ (ep l k).b ∧ (ep l k).b ≤ 20) ∧ -200 ≤ (ep l k).p ∧ (ep l k).p ≤ 200 := fun k hk => by
      have h1 := hR.bd k hk
      obtain ⟨h2, h3, h4⟩ := hnar k hk
      rw [rngB_true] at h3 h4
      omega
    have hrow : ∀ r ∈ rws l, (-60 ≤ r.x ∧ r.x ≤ 60) ∧ (-20 ≤ r.y ∧ r.y ≤ 20) ∧ r.z = 1 ∧ -200 ≤ r.v ∧ r.v ≤ 200 := fun r hr => by
      obtain ⟨k, hk, rfl⟩ := List.getElem_of_mem hr
      have hk' : k < l.length := by rwa [rws_len] at hk
      have e := rw_rws l k hk'
      unfold rw_ at e
      rw [List.getD_eq_getElem?_getD, List.getElem?_eq_getElem hk, Option.getD_some] at e
      rw [e]
      have := hbd k hk'
      refine ⟨⟨?_, ?_⟩, ⟨?_, ?_⟩, rfl, ?_, ?_⟩ <;> (try simp only) <;> omega
    have hD0 : 0 < (NM l).det := by
      have := dN_nonneg ((rws l).map Rw.w)
      rw [← nm_dN] at this
      have e : Go.Sr.nm (rws l) = NM l := rfl
      rw [e] at this
      omega
    have hlr : ((rws l).length : Int) ≤ 8 := by rw [rws_len]; omega
    have hD1 : (NM l).det ≤ 1000000000000 := by
      have k1 := smb (fun r => r.x * r.x) 3600 8 28800 (by decide) (rws l) (fun r hr => mulc 3600 (hrow r hr).1 (hrow r hr).1 (by decide)) hlr (by decide)
      have k2 := smb (fun r => r.x * r.y) 1200 8 9600 (by decide) (rws l) (fun r hr => mulc 1200 (hrow r hr).1 (hrow r hr).2.1 (by decide)) hlr (by decide)
      have k3 := smb (fun r => r.x * r.z) 60 8 480 (by decide) (rws l) (fun r hr => by have := hrow r hr; rw [this.2.2.1, Int.mul_one]; exact this.1) hlr (by decide)
      have k4 := smb (fun r => r.y * r.y) 400 8 3200 (by decide) (rws l) (fun r hr => mulc 400 (hrow r hr).2.1 (hrow r hr).2.1 (by decide)) hlr (by decide)
      have k5 := smb (fun r => r.y * r.z) 20 8 160 (by decide) (rws l) (fun r hr => by have := hrow r hr; rw [this.2.2.1, Int.mul_one]; exact this.2.1) hlr (by decide)
      have k6 := smb (fun r => r.z * r.z) 1 8 8 (by decide) (rws l) (fun r hr => by have := hrow r hr; rw [this.2.2.1]; decide) hlr (by decide)
      have m1 := mulc (a := (NM l).yy) (b := (NM l).zz) 25600 k4 k6 (by decide)
      have m2 := mulc (a := (NM l).yz) (b := (NM l).yz) 25600 k5 k5 (by decide)
      have m3 := mulc (a := (NM l).xy) (b := (NM l).zz) 76800 k2 k6 (by decide)
      have m4 := mulc (a := (NM l).yz) (b := (NM l).xz) 76800 k5 k3 (by decide)
      have m5 := mulc (a := (NM l).xy) (b := (NM l).yz) 1536000 k2 k5 (by decide)
      have m6 := mulc (a := (NM l).yy) (b := (NM l).xz) 1536000 k4 k3 (by decide)
      have t1 := mulc (A := 28800) (B := 51200) (a := (NM l).xx) (b := (NM l).yy * (NM l).zz - (NM l).yz * (NM l).yz) 1474560000 k1 (by omega) (by decide)
      have t2 := mulc (A := 9600) (B := 153600) (a := (NM l).xy) (b := (NM l).xy * (NM l).zz - (NM l).yz * (NM l).xz) 1474560000 k2 (by omega) (by decide)
      have t3 := mulc (A := 480) (B := 3072000) (a := (NM l).xz) (b := (NM l).xy * (NM l).yz - (NM l).yy * (NM l).xz) 1474560000 k3 (by omega) (by decide)
      unfold Nm.det
      omega
    have hlen := rsT_len l _ (Nat.le_refl _)
    have hFl : (frL (NM l).det (rsT l l.length)).length = l.length := by unfold frL; rw [List.length_map, hlen]
    have hsm := fun k (hk : k < l.length) => rsd_small (R := rws l) (by rw [rws_len]; exact hl8) (fun r hr => (hrow r hr).2.2.2) (by show 0 ≤ (NM l).det; omega) k (by rw [rws_len]; exact hk)
    have hsm : ∀ k, k < l.length → -(566 * (NM l).det) ≤ rsd (NM l) (rw_ (rws l) k) ∧ rsd (NM l) (rw_ (rws l) k) ≤ 566 * (NM l).det := hsm
    obtain ⟨o1, o2, o3⟩ := orth (rws l)
    have hS := fun (m : Mem) (i : Nat) (bk : Blk) (g1 : m.at i = some bk) (g2 : bk.cells = flatE l) => PCalls.via1 (args0 := [srI nm 0 l.length]) (fun z => Solve_c hn hR hN z) g1 g2 (flatE_scal l) rfl rfl (rn3_flat (sl_flat1 _)) (ok3_flat (sl_flat1 _))
    have key : ∃ x y p q s t g : Int, (∀ (m : Mem) (i : Nat) (bk : Blk), m.at i = some bk → bk.cells = flatE l → PCalls Try.prog 17 [srI nm i l.length] m (.tuple #[.agg #[.int .i64 x, .int .i64 y, .int .i64 p, .int .i64 q, .int .i64 s, .int .i64 t], .int .i64 g])) ∧ (g = 0 ∨ g = 8) ∧
        (g = 0 → x = frN (fitF (NM l) 0) (NM l).det ∧ y = frD (fitF (NM l) 0) (NM l).det ∧ p = frN (fitF (NM l) 1) (NM l).det ∧ q = frD (fitF (NM l) 1) (NM l).det ∧ s = frN (fitF (NM l) 2) (NM l).det ∧ t = frD (fitF (NM l) 2) (NM l).det) := by
      cases ha : allSm (NM l).det [fitF (NM l) 0, fitF (NM l) 1, fitF (NM l) 2] with
      | false =>
        rw [show slV (NM l) = z6 by simp [slV, thV, h0, ha], show slE (NM l) = 8 by simp [slE, thE, h0, ha]] at hS
        exact ⟨_, _, _, _, _, _, _, hS, .inr rfl, fun h => absurd h (by decide)⟩
      | true =>
        rw [show slE (NM l) = 0 by simp [slE, thE, h0, ha], show slV (NM l) = .agg #[.int .i64 (frN (fitF (NM l) 0) (NM l).det), .int .i64 (frD (fitF (NM l) 0) (NM l).det), .int .i64 (frN (fitF (NM l) 1) (NM l).det), .int .i64 (frD (fitF (NM l) 1) (NM l).det), .int .i64 (frN (fitF (NM l) 2) (NM l).det), .int .i64 (frD (fitF (NM l) 2) (NM l).det)] by simp [slV, thV, h0, ha]] at hS
        exact ⟨_, _, _, _, _, _, _, hS, .inl rfl, fun _ => ⟨rfl, rfl, rfl, rfl, rfl, rfl⟩⟩
    obtain ⟨x, y, p, q, s, t, g, H4, hg, hgv⟩ := key
    have zz := nm_zz l
    have hNq := fun (m : Mem) (i : Nat) (k : Blk) (h1 : m.at i = some k) (h2 : k.cells = flatE l) => NormalOf_q nm l hR h1 h2 rfl
    unfold nmA nmF at hNq
    rw [zz] at hNq
    refine OrL_y nm hn hl hf ⟨hn1, hl8⟩ (fun k hk => by have := hbd k hk; omega) a b c (frL (NM l).det (rsT l l.length)) (NM l).det ⟨hD0, hD1⟩
      (fun m i k h1 h2 => ACalls.viaS [i] [] [some ⟨flatF (frL (NM l).det (rsT l l.length)), true, 2⟩] (Residuals_y hn hR hN h0 hs k.esz) (m := m) (args := [srI nm i l.length]) (v := .tuple #[.slice (some ⟨m.length, 0, none⟩) l.length INF, .int .i64 0])
          ⟨⟨k, h1, rfl, (fun h => nomatch h), .inl ⟨h2, flatE_scal l⟩⟩, trivial⟩ (by simp) ⟨⟨_, rfl, rfl⟩, ⟨rfl, rfl, rfl, .inl ⟨rfl, flatF_scal _⟩⟩, trivial⟩ rfl rfl (by simp [rn3, rn2, rn1, τn]) rfl)
      _ _ _ _ _ _ _ _ _ _ _ _ _ _ hNq (fun m i k h1 h2 => FitOf_q nm l hR h1 h2 rfl)
      (fun k => frN (rsd (NM l) (rw_ (rws l) k)) (NM l).det) (fun k => frD (rsd (NM l) (rw_ (rws l) k)) (NM l).det)
      (fun k => sm (fun r => rsd (NM l) r * r.x) ((rws l).take k)) (fun k => sm (fun r => rsd (NM l) r * r.y) ((rws l).take k)) (fun k => sm (fun r => rsd (NM l) r * r.z) ((rws l).take k))
      (fun k hk => ?_) (fun k hk => ?_) ⟨by simp [sm], by simp [sm], by simp [sm]⟩ (fun k hk => ?_) (fun k hk => ?_) (fun k hk => ?_) ⟨?_, ?_, ?_⟩ x y p q s t g hg H4 (sqE x p s) (sqE a b c) (sqW x p s l) (sqW a b c l)
      (fun m i bk g1 g2 => Squares_w l nm hn hR hN x p s m i bk g1 g2) (fun m i bk g1 g2 => Squares_w l nm hn hR hN a b c m i bk g1 g2) (fun e0 e1 e2 e3 e4 e5 => ?_) z0
    · have := flatF_at (frL (NM l).det (rsT l l.length)) k (by rw [hFl]; exact hk)
      rwa [frL_at _ _ k (by rw [hlen]; exact hk), rsT_get l k hk] at this
    · obtain ⟨b1, b2, b3⟩ := fr_back (n := rsd (NM l) (rw_ (rws l) k)) hD0
      have h1 := hsm k hk
      have h2 := fr_lo1 (n := rsd (NM l) (rw_ (rws l) k)) (d := (NM l).det) (k := -10000) (c := 1) hD0 (by omega)
      have h3 := fr_hi1 (n := rsd (NM l) (rw_ (rws l) k)) (d := (NM l).det) (k := 10000) (c := 1) hD0 (by omega)
      rw [b3]
      refine ⟨b1, b2, by omega, by omega⟩
    · have := sm_take (fun r => rsd (NM l) r * r.x) (rws l) k (by rw [rws_len]; exact hk)
      rw [this, (fr_back (n := rsd (NM l) (rw_ (rws l) k)) hD0).2.2]
      have e := rw_rws l k hk
      unfold rw_ at e ⊢
      rw [e]
    · have := sm_take (fun r => rsd (NM l) r * r.y) (rws l) k (by rw [rws_len]; exact hk)
      rw [this, (fr_back (n := rsd (NM l) (rw_ (rws l) k)) hD0).2.2]
      have e := rw_rws l k hk
      unfold rw_ at e ⊢
      rw [e]
    · have := sm_take (fun r => rsd (NM l) r * r.z) (rws l) k (by rw [rws_len]; exact hk)
      rw [this, (fr_back (n := rsd (NM l) (rw_ (rws l) k)) hD0).2.2]
      have e := rw_rws l k hk
      unfold rw_ at e ⊢
      rw [e]
      simp only [Int.mul_one]
    · rw [← rws_len l, List.take_length]; exact o1
    · rw [← rws_len l, List.take_length]; exact o2
    · rw [← rws_len l, List.take_length]; exact o3
    · obtain ⟨v0, v1, v2, v3, v4, v5⟩ := hgv e0
      rw [sqW_eq e4, sqW_eq e5]
      exact least h0 (by rw [v0]; exact fr_one hD0 (by rw [← v1]; exact e1)) (by rw [v2]; exact fr_one hD0 (by rw [← v3]; exact e2)) (by rw [v4]; exact fr_one hD0 (by rw [← v5]; exact e3)) a b c
theorem OrL_q {v : Value} {m0 : Mem} {l : List Ep} (nm : ByteArray) (h : Sh l v m0) (hn : (nm.size : Int) ≤ 9223372036854775807) (hl : (l.length : Int) ≤ 9223372036854775807) (a b c : Int) : PCalls Try.prog 10 [srV nm v, pV a b c] m0 (.bool true) := by
  cases hf : narB nm.data.toList l with
  | false => exact OrL_n nm h hn hl hf a b c
  | true =>
    have hn1 := (srE_right (narB_p hf).1).1.n1
    rcases h with ⟨rfl, rfl, h3⟩ | ⟨rfl, rfl, h3⟩ | ⟨z0, rfl, rfl⟩
    · rw [h3] at hn1; exact absurd hn1 (by decide)
    · rw [h3] at hn1; exact absurd hn1 (by decide)
    · exact OrL_r nm hf a b c z0
end Go.Proofs.Ytnocdnhhlppahaa
end

section
namespace Go.Proofs.Ytnocdnhhlppahaa.SeriesOrthogonal
open Go.ChangeShapes Go.WideShapes Go.ChangeAt Go Go.RowKit Go.Ab Go.Sr Go.Proofs.Ytnocdnhhlppahaa
set_option maxRecDepth 100000
theorem walk {W : World} (nm : ByteArray) (a : Option Addr) (l : List Ep) (cap : Nat) (hnm : nm.size ≤ maxLen) (hcap : l.length ≤ cap) (hcm : cap ≤ maxLen) (hS : SlX W a (flatE l)) (hz : a = none → cap = 0) (x y z : Int) : Calls Try.prog 10 #[.agg #[.string nm, .slice a l.length cap], pV x y z] W fun e w' => e = .returned (.bool true) ∧ Below W.heap.size W w' := by
  refine glueS (us := [pV x y z]) rfl hS hcap hz fun v m0 h => OrL_q nm h ?_ ?_ x y z
  · simp only [maxLen] at hnm; omega
  · simp only [maxLen] at hcm; omega

theorem cells_A3 : Try.prog.cellsOf 65 = 3 := by kernel_rfl
theorem ints_A3 : intsT Try.prog 4 65 = true := by kernel_rfl
set_option maxRecDepth 100000 in
theorem open_A3 {H : Type} {enc : TypeId × Value → H} {w : World} {base : Nat} {spare : Nat → Bool} {held : Bool} {r : Reach} {b0 : Nat} {v : Value} {d : DataW H} {p : List MemPlace} (hv : Value.okWide Try.prog w r b0 65 v) (h : DataW.Trod enc Try.prog w base spare held 65 v d p) :
    ∃ x0 x1 x2 : Int, v = .agg #[.int .i64 x0, .int .i64 x1, .int .i64 x2] ∧ (-9223372036854775808 ≤ x0 ∧ x0 ≤ 9223372036854775807) ∧ (-9223372036854775808 ≤ x1 ∧ x1 ≤ 9223372036854775807) ∧ (-9223372036854775808 ≤ x2 ∧ x2 ≤ 9223372036854775807) := by
  obtain ⟨cs, rfl, hsz⟩ := okWide_array Try.underlying65 hv
  obtain ⟨l⟩ := cs
  obtain ⟨fuel, hf⟩ := h
  have hi := ints_of 4 _ _ _ _ ints_A3 hf
  match l, hsz.trans cells_A3, hi with
  | [c0, c1, c2], _, hi =>
    obtain ⟨x0, rfl, hx0⟩ := hi c0 (by simp [Value.cells])
    obtain ⟨x1, rfl, hx1⟩ := hi c1 (by simp [Value.cells])
    obtain ⟨x2, rfl, hx2⟩ := hi c2 (by simp [Value.cells])
    exact ⟨x0, x1, x2, rfl, wf_bd hx0, wf_bd hx1, wf_bd hx2⟩
set_option maxRecDepth 100000 in
theorem lifted (os : Os) (started : os.Started) (H : Type) (enc : TypeId × Value → H) :
    ReturnsInHanded {} Try.checked os 10 .any (Rows.seriesOrthogonalSpec.pre6 enc Try.prog Try.f10 Rows.seriesOrthogonalRow.domain false) (Rows.seriesOrthogonalSpec.post enc Try.prog Try.f10 false true false false) := by
  refine returnsInHanded_of_change (C := Try.checked) own started (by kernel_rfl) Try.func10
    (ChangeSpec.witness6 (enc := enc) (C := Try.checked) false ⟨#[], #[.agg #[.string ⟨#[]⟩, .slice none 0 0], .agg #[.int .i64 0, .int .i64 0, .int .i64 0]], []⟩ 8 (by kernel_rfl) (by kernel_rfl) (by kernel_rfl) (by kernel_rfl)) ?_
  intro W base args ds gs before hval0 hW hcnd _
  have hval : ∀ (j : Nat) t v, Try.f10.params[j]? = some t → args[j]? = some v → Value.okWide Try.prog W .any base t v := hval0
  have hW' := hW
  obtain ⟨p, q, hA0, hV, rfl, hfz, hnd⟩ := hW
  have hA : DataW.TrodAll enc Try.prog W 0 (fun _ => true) true Try.f10.params.toList args.toList ds p := hA0
  rw [Try.params10] at hA hval
  obtain ⟨v0, vs0, d0, ds0, p0, q0, hargs, rfl, rfl, h0, r0⟩ := trodAll_cons hA
  obtain ⟨v1, vs1, d1, ds1, p1, q1, rfl, rfl, rfl, h1, r1⟩ := trodAll_cons r0
  obtain ⟨rfl, rfl, rfl⟩ := trodAll_nil r1
  obtain rfl : args = #[v0, v1] := by cases args; simp_all
  obtain ⟨rfl, rfl⟩ := trodVars_none hV
  clear hA0 hval0
  have hlt := hW'.lt
  have g0 := h0
  have g1 := h1
  obtain ⟨nm0, a0, l0, cap0, rfl, hnm0, hcap0, hcm0, hS0, hz0⟩ := open_S (hval 0 24 v0 rfl rfl) h0
  obtain ⟨x0_1, x1_1, x2_1, rfl, hx0_1, hx1_1, hx2_1⟩ := open_A3 (hval 1 65 v1 rfl rfl) h1
  simp only [List.append_nil] at hW' hlt ⊢
  refine (walk nm0 a0 l0 cap0 hnm0 hcap0 hcm0 hS0 hz0 x0_1 x1_1 x2_1).mono fun e W' ⟨he, hb⟩ => ?_
  subst he
  have stay : ∀ (t : TypeId) v d ps (sp : Nat → Bool), Try.prog.readableRec t = true → t < Try.prog.types.size → DataW.Trod enc Try.prog W 0 (fun _ => true) true t v d ps → (∀ x ∈ ps, x.block < W.heap.size) → (∀ x ∈ ps, sp x.block = true) → DataW.Trod enc Try.prog W' 0 sp true t v d ps :=
    fun t v d ps sp hr ht h hx hs => Go.WideElems.Trod_stays laid hr ht h (fun x hxp => hb.same (hx x hxp)) hs
  exact ⟨_, rfl, post_below (pa := p0 ++ (p1 ++ [])) (pv := []) hW' (fun _ _ _ => trodAll_mk1 (shut_bool Try.underlying4 true)) (fun sp hs => (trodAll_cons_mk (stay 24 _ _ _ sp (by kernel_rfl) (of_decide_eq_true (by kernel_rfl)) g0 (fun x hx => hlt x (by simp [hx])) (fun x hx => hs x (by simp [hx]))) (trodAll_cons_mk (stay 65 _ _ _ sp (by kernel_rfl) (of_decide_eq_true (by kernel_rfl)) g1 (fun x hx => hlt x (by simp [hx])) (fun x hx => hs x (by simp [hx]))) (trodAll_mk0)))) (fun _ _ => rfl) (by simp)
    hb (ok_one (by kernel_rfl) rfl (okWide_bool_mk Try.underlying4 true))⟩

theorem over : Rows.seriesOrthogonalRow.holds Try.pinned (OpenSpec.ofChange Rows.seriesOrthogonalSpec) :=
  OpenClaim.holds_of_wide 10 Try.f10 rfl rfl rfl rfl rfl rfl rfl ⟨rfl, rfl, rfl, rfl, rfl⟩ rfl rfl rfl rfl rfl (by kernel_rfl) Try.func10 (by kernel_rfl)
    (of_decide_eq_true (by kernel_rfl)) (by unfold Func.isWrapper; first | (rw [if_pos (by decide +kernel)]; kernel_rfl) | (rw [if_neg (by decide +kernel)]; exact ⟨rfl, rfl⟩))
    (fun os started H enc _ => lifted os started H enc)

/-- The statement. -/
theorem proved : Rows.SeriesOrthogonalSaid := over
#print axioms proved
end Go.Proofs.Ytnocdnhhlppahaa.SeriesOrthogonal
end
