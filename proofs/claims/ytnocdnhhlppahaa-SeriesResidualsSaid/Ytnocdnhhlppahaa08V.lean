/- SeriesResiduals: Residuals and Predicted return what the document specifies, or the errors; the prediction for a date and its residual are its phase. -/
import Derived.Test.Ytnocdnhhlppahaa08H
import Derived.Test.Ytnocdnhhlppahaa08y
import Derived.Test.Ytnocdnhhlppahaa08r
import Derived.Test.Ytnocdnhhlppahaa08T
set_option linter.unusedSimpArgs false
set_option linter.unusedVariables false
section
namespace Go.Proofs.Ytnocdnhhlppahaa
open Go.ChangeShapes Go.WideShapes Go.ChangeAt Go Go.RowKit Go.Ab Go.Sr
set_option maxRecDepth 100000
set_option maxHeartbeats 4000000
attribute [local irreducible] OQ OW AL AW AD AF SW

theorem fr_comp {P D v : Int} (h : D ≠ 0) : frD (v * D - P) D = frD P D ∧ frN P D + frN (v * D - P) D = v * frD P D := by
  have e : frG (v * D - P) D = frG P D := by
    have : Int.gcd (v * D - P) D = Int.gcd P D := by
      rw [show v * D - P = -P + v * D by omega, Int.gcd_add_mul_right_left, Int.neg_gcd]
    unfold frG
    rw [this]
  obtain ⟨x, hx⟩ : frG P D ∣ P := by unfold frG; split <;> first | exact Int.neg_dvd.2 (Int.gcd_dvd_left ..) | exact Int.gcd_dvd_left ..
  obtain ⟨y, hy⟩ : frG P D ∣ D := by unfold frG; split <;> first | exact Int.neg_dvd.2 (Int.gcd_dvd_right ..) | exact Int.gcd_dvd_right ..
  have hg : frG P D ≠ 0 := fun h0 => h (by rw [hy, h0, Int.zero_mul])
  unfold frD frN
  rw [e]
  generalize frG P D = g at *
  refine ⟨rfl, ?_⟩
  subst hx
  subst hy
  rw [show v * (g * y) - g * x = g * (v * y - x) by rw [Int.mul_sub, Int.mul_left_comm], Int.mul_tdiv_cancel_left _ hg, Int.mul_tdiv_cancel_left _ hg, Int.mul_tdiv_cancel_left _ hg]
  omega
theorem flatF_get (L : List (Int × Int)) (k : Nat) (h : k < L.length) : (flatF L)[k * 2]? = some (.int .i64 (L.getD k (0, 0)).1) ∧ (flatF L)[k * 2 + 1]? = some (.int .i64 (L.getD k (0, 0)).2) :=
  ⟨flat_get frC 2 (fun _ => rfl) (0, 0) L k 0 (by decide) h, flat_get frC 2 (fun _ => rfl) (0, 0) L k 1 (by decide) h⟩
theorem flatF_ld {m : Mem} {b : Nat} {blk : Blk} (L : List (Int × Int)) (hb : m.at b = some blk) (hc : blk.cells = flatF L) (k : Nat) (hk : k < L.length) : m.ld b (k * 2) 2 = some [.int .i64 (L.getD k (0, 0)).1, .int .i64 (L.getD k (0, 0)).2] := flat_ld frC 2 (fun _ => rfl) (0, 0) L hb hc k hk
theorem Fracs_nil (m : Mem) : PCalls Try.prog 48 [.slice none 0 0, .slice none 0 0] m (.bool true) := by
  refine PCalls.any ?_ rfl rfl m
  refine PCalls.enter (t := [.slice none 0 0, .slice none 0 0, undef, undef, undef, undef, undef, undef, undef, undef, undef, undef, undef, undef, undef, undef, undef, undef, undef, undef, undef, undef, undef, undef, undef, undef]) Try.func48 rfl (ro_nil) rfl fun E => ?_
  repeat' (first
    | with_reducible refine Then.n ?_
    | with_reducible refine Then.r ?_
    | with_reducible refine Then.x ?_
    | with_reducible refine InB.n ?_
    | with_reducible refine InB.r ?_
    | with_reducible refine InB.hit ?_
    | with_reducible refine InB.miss (by decide) ?_
    | ((with_reducible refine AL.on ?_); first
      | ((first | ((with_reducible refine AL.k_move ?_); first | (refine AL.q rfl (OQ.move (by conv => lhs; whnf)) ?_)) | ((with_reducible refine AL.k_assign ?_); first | (refine AL.q rfl (OQ.assign (by conv => lhs; whnf)) ?_)) | ((with_reducible refine AL.k_binOp ?_); first | refine AL.q rfl (OQ.neq rfl rfl) ?_ | refine AL.q rfl (OQ.lss rfl rfl) ?_ | refine AL.q rfl (OQ.addi rfl rfl (by omega)) ?_ | refine AL.q rfl (OQ.add rfl rfl) ?_) | ((with_reducible refine AL.k_call ?_); first | refine AL.q rfl (OQ.lenS (xt := 87) (r := (none, 2, true)) rfl (by kernel_rfl)) ?_)); (conv => (arg 5; try tactic => exact nrm)))
      | refine AL.nil ?_)
    | ((with_reducible refine AW.on ?_); first
      | refine AW.seq ?_
      | refine AW.skip ?_
      | refine AW.exit ?_
      | refine AW.ret ?_
      | (refine AW.block (id := 0) ?_; refine AW.unroll 1 ?_)
      | refine AW.block ?_
      | (refine AW.draw (id := 6) 9 #[0, 0, 3, 7, 0, 0, 48, 112, 255] (by kernel_rfl) (by kernel_rfl) ?_; (conv => (arg 8; simp only [List.take_succ_cons, List.take_zero])))
      | refine AW.region ?_
      | (refine AW.conds rfl (fun hc => ?_) (fun hc => ?_) <;> (try simp only [decide_eq_true_eq, decide_eq_false_iff_not, Bool.not_true, Bool.not_false, Bool.not_eq_true', Bool.not_eq_false', Int.not_lt, Int.not_le, Classical.not_not, ne_eq] at hc) <;> first | (exfalso; first | contradiction | (first | omega | (simp at *; done)); done) | skip))
    | ((with_reducible refine AD.on ?_); first
      | ((first | ((with_reducible refine AD.k_move ?_); first | (refine AD.q rfl (OQ.move (by conv => lhs; whnf)) rfl rfl rfl ?_)) | ((with_reducible refine AD.k_binOp ?_); first | refine AD.q rfl (nel_t28 rfl rfl) rfl rfl rfl ?_) | ((with_reducible refine AD.k_indexAddr ?_); first | refine AD.q rfl (OQ.idxAddr (ty := 87) (z := 2) (g := true) rfl rfl (by kernel_rfl) (by omega) (by omega)) rfl rfl rfl ?_) | ((with_reducible refine AD.k_load ?_); first | refine AD.q rfl (OQ.loadN (ty := 28) (n := 2) rfl (by kernel_rfl) (by kernel_rfl) rfl) rfl rfl rfl ?_)); (conv => (arg 10; try tactic => exact nrm)))
      | (refine AD.nil ?_; (conv => (arg 4; simp only [List.drop_succ_cons, List.drop_zero, List.drop_nil])); (conv => (arg 5; try tactic => exact nrm)); (conv => (arg 6; try tactic => exact nrm))))
    | with_reducible refine AR.s ?_
    | ((with_reducible refine AR.out ?_); first | omega | (simp at *; done); done)
    | ((with_reducible refine FinP.on ?_); (first | refine FinP.ret (.tmp (by conv => lhs; whnf) .nil) ?_ rfl | refine FinP.end (.tmp (by conv => lhs; whnf) .nil) ?_ rfl); (try simp only [pack, List.drop, List.take]); all_goals (rfl)))
theorem Fracs_c (L : List (Int × Int)) (hl : L.length ≤ 1000) (e0 e1 : Nat) : PCalls Try.prog 48 [.slice (some ⟨0, 0, none⟩) L.length INF, .slice (some ⟨1, 0, none⟩) L.length INF] [some ⟨flatF L, false, e0⟩, some ⟨flatF L, false, e1⟩] (.bool true) := by
  have h1 := fun (m : Mem) (k : Nat) (hk : k < L.length) => flatF_ld (m := some ⟨flatF L, false, e0⟩ :: m) (b := 0) L rfl rfl k hk
  have h2 := fun (a : Option Blk) (m : Mem) (k : Nat) (hk : k < L.length) => flatF_ld (m := a :: some ⟨flatF L, false, e1⟩ :: m) (b := 1) L rfl rfl k hk
  refine PCalls.enter (t := [.slice (some ⟨0, 0, none⟩) (L.length) INF, .slice (some ⟨1, 0, none⟩) (L.length) INF, undef, undef, undef, undef, undef, undef, undef, undef, undef, undef, undef, undef, undef, undef, undef, undef, undef, undef, undef, undef, undef, undef, undef, undef]) Try.func48 rfl (ro2 _ _ rfl rfl) rfl fun E => ?_
  repeat' (first
    | with_reducible refine Then.n ?_
    | with_reducible refine Then.r ?_
    | with_reducible refine Then.x ?_
    | with_reducible refine InB.n ?_
    | with_reducible refine InB.r ?_
    | with_reducible refine InB.hit ?_
    | with_reducible refine InB.miss (by decide) ?_
    | ((with_reducible refine AL.on ?_); first
      | ((first | ((with_reducible refine AL.k_move ?_); first | (refine AL.q rfl (OQ.move (by conv => lhs; whnf)) ?_)) | ((with_reducible refine AL.k_assign ?_); first | (refine AL.q rfl (OQ.assign (by conv => lhs; whnf)) ?_)) | ((with_reducible refine AL.k_binOp ?_); first | refine AL.q rfl (OQ.neq rfl rfl) ?_ | refine AL.q rfl (OQ.lss rfl rfl) ?_ | refine AL.q rfl (OQ.addi rfl rfl (by omega)) ?_ | refine AL.q rfl (OQ.add rfl rfl) ?_) | ((with_reducible refine AL.k_call ?_); first | refine AL.q rfl (OQ.lenS (xt := 87) (r := (none, 2, true)) rfl (by kernel_rfl)) ?_)); (conv => (arg 5; try tactic => exact nrm)))
      | refine AL.nil ?_)
    | ((with_reducible refine AW.on ?_); first
      | refine AW.seq ?_
      | refine AW.skip ?_
      | refine AW.exit ?_
      | refine AW.ret ?_
      | ((refine AW.block (id := 0) ?_); (refine AW.wk (Wk.forget [true, true, false, false, false, true, false, false, false, false, false, false, false, false, false, false, false, false, false, false, false, false, false, false, false, false] rfl) ?_); (conv => (arg 4; simp only [fgt, if_true, if_false, Bool.false_eq_true])); (refine AW.loop (fun n t' m => ∃ k : Nat, n = L.length - k ∧ k ≤ L.length ∧ t' = [.slice (some ⟨0, 0, none⟩) (L.length) INF, .slice (some ⟨1, 0, none⟩) (L.length) INF, junk, junk, junk, .int .i64 (k), junk, junk, junk, junk, junk, junk, junk, junk, junk, junk, junk, junk, junk, junk, junk, junk, junk, junk, junk, junk] ∧ m = [some ⟨flatF L, false, e0⟩, some ⟨flatF L, false, e1⟩]) (L.length) (by exact ⟨0, rfl, Nat.zero_le _, rfl, rfl⟩) ?_); (rintro n t' m ⟨k, rfl, hk, rfl, rfl⟩))
      | refine AW.block ?_
      | (refine AW.draw (id := 6) 9 #[0, 0, 3, 7, 0, 0, 48, 112, 255] (by kernel_rfl) (by kernel_rfl) ?_; (conv => (arg 8; simp only [List.take_succ_cons, List.take_zero])))
      | (refine AW.region (id := 2) ?_; exfalso; first | omega | (simp at *; done); done)
      | (refine AW.region (id := 7) ?_; exfalso; first | omega | (simp at *; done); done)
      | refine AW.region ?_
      | (refine AW.conds rfl (fun hc => ?_) (fun hc => ?_) <;> (try simp only [decide_eq_true_eq, decide_eq_false_iff_not, Bool.not_true, Bool.not_false, Bool.not_eq_true', Bool.not_eq_false', Int.not_lt, Int.not_le, Classical.not_not, ne_eq] at hc) <;> first | (exfalso; first | contradiction | (first | omega | (simp at *; done)); done) | skip))
    | ((with_reducible refine AD.on ?_); first
      | ((first | ((with_reducible refine AD.k_move ?_); first | (refine AD.q rfl (OQ.move (by conv => lhs; whnf)) rfl rfl rfl ?_)) | ((with_reducible refine AD.k_binOp ?_); first | refine AD.q rfl (nel_t28 rfl rfl) rfl rfl rfl ?_) | ((with_reducible refine AD.k_load ?_); first | refine AD.q rfl (OQ.loadN (ty := 28) (n := 2) rfl (by kernel_rfl) (by kernel_rfl) (by first | (first | exact h1 _ _ (by omega) | exact h2 _ _ _ (by omega)) | rfl)) rfl rfl rfl ?_)); (conv => (arg 10; try tactic => exact nrm)))
      | ((first | first | refine AD.q rfl (OQ.idxAddr (ty := 87) (z := 2) (g := true) rfl rfl (by kernel_rfl) (by omega) (by omega)) rfl rfl rfl ?_); (conv => (arg 10; try tactic => exact nrm)))
      | (refine AD.nil ?_; (conv => (arg 4; simp only [List.drop_succ_cons, List.drop_zero, List.drop_nil])); (conv => (arg 5; try tactic => exact nrm)); (conv => (arg 6; try tactic => exact nrm))))
    | ((with_reducible refine ex_on ?_); (refine ⟨_, _, _, ?_, ?_, k + 1, rfl, (by omega), rfl, rfl⟩; omega; exact Wk.forget [true, true, false, false, false, true, false, false, false, false, false, false, false, false, false, false, false, false, false, false, false, false, false, false, false, false] rfl))
    | ((with_reducible refine FinP.on ?_); (first | refine FinP.ret (.tmp (by conv => lhs; whnf) .nil) ?_ rfl | refine FinP.end (.tmp (by conv => lhs; whnf) .nil) ?_ rfl); (try simp only [pack, List.drop, List.take]); all_goals (rfl)))
theorem Fracs_q {m : Mem} {a b n : Nat} {k0 k1 : Blk} (L : List (Int × Int)) (hl : L.length ≤ 1000) (hn : L.length = n) (h0 : m.at a = some k0) (h1 : m.at b = some k1) (hc0 : k0.cells = flatF L) (hc1 : k1.cells = flatF L) :
    PCalls Try.prog 48 [.slice (some ⟨a, 0, none⟩) n INF, .slice (some ⟨b, 0, none⟩) n INF] m (.bool true) := by
  subst hn
  exact PCalls.viaS [a, b] (Fracs_c L hl k0.esz k1.esz) (ro2 _ _ rfl rfl) ⟨⟨_, h0, rfl, (fun h => nomatch h), .inl ⟨hc0, flatF_scal _⟩⟩, ⟨_, h1, rfl, (fun h => nomatch h), .inl ⟨hc1, flatF_scal _⟩⟩, trivial⟩ rfl rfl rfl rfl
end Go.Proofs.Ytnocdnhhlppahaa
end
