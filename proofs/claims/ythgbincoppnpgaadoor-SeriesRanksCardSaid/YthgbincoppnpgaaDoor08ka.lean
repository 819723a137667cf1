/- Chapter 8: the rank of the normal equations. -/
import Derived.Test.YthgbincoppnpgaaDoor08n
import Derived.Test.YthgbincoppnpgaaDoor08K
set_option linter.unusedSimpArgs false
set_option linter.unusedVariables false
namespace Go.Proofs.YthgbincoppnpgaaDoor
open Go Go.RowKit Go.Ab Go.Sr
set_option maxRecDepth 100000
set_option maxHeartbeats 2000000
attribute [local irreducible] OQ OW AL AW AD AF SW

def sxN (n : Nm) : Sx := ⟨n.xx, n.xy, n.xz, n.yy, n.yz, n.zz⟩
theorem sx_nm (R : List Rw) : sx (R.map Rw.w) = sxN (nm R) := by
  have e : ∀ f : V3 → Int, smv f (R.map Rw.w) = sm (fun r => f r.w) R := fun f => by simp [smv, sm, List.map_map, Function.comp_def]
  unfold sx
  simp only [e]
  rfl
theorem rk3_c (n : Nm) (hN : NB n) (c : Nat) : PCalls Tryd.prog 25 [nmV n, .slice (some ⟨0, 0, none⟩) 3 c] [some ⟨[.int .i64 0, .int .i64 1, .int .i64 2], false, 0⟩] (.int .i64 (rkA (sxN n))) := by
  have h1 := mulc 200000000000000 hN.xx hN.yy (by decide)
  have h2 := mulc 200000000000000 hN.xx hN.zz (by decide)
  have h3 := mulc 200000000000000 hN.yy hN.zz (by decide)
  have h4 := mulc 200000000000000 hN.xy hN.xy (by decide)
  have h5 := mulc 200000000000000 hN.xz hN.xz (by decide)
  have h6 := mulc 200000000000000 hN.yz hN.yz (by decide)
  have HD := fun m => det_q n hN m
  obtain ⟨r, hr⟩ : ∃ r, r = rkA (sxN n) := ⟨_, rfl⟩
  rw [← hr]
  have hr' : r = if n.det ≠ 0 then 3 else if n.xx * n.yy - n.xy * n.xy ≠ 0 ∨ n.xx * n.zz - n.xz * n.xz ≠ 0 ∨ n.yy * n.zz - n.yz * n.yz ≠ 0 then 2 else if n.xx ≠ 0 ∨ n.yy ≠ 0 ∨ n.zz ≠ 0 then 1 else 0 := hr
  clear hr
  have r3 : n.det ≠ 0 → r = 3 := fun h => by rw [hr', if_pos h]
  have r2 : n.det = 0 → (n.xx * n.yy - n.xy * n.xy ≠ 0 ∨ n.xx * n.zz - n.xz * n.xz ≠ 0 ∨ n.yy * n.zz - n.yz * n.yz ≠ 0) → r = 2 := fun h h' => by rw [hr', if_neg (by omega), if_pos h']
  have r1 : n.det = 0 → ¬ (n.xx * n.yy - n.xy * n.xy ≠ 0 ∨ n.xx * n.zz - n.xz * n.xz ≠ 0 ∨ n.yy * n.zz - n.yz * n.yz ≠ 0) → (n.xx ≠ 0 ∨ n.yy ≠ 0 ∨ n.zz ≠ 0) → r = 1 := fun h h' h'' => by rw [hr', if_neg (by omega), if_neg h', if_pos h'']
  have r0 : n.det = 0 → ¬ (n.xx * n.yy - n.xy * n.xy ≠ 0 ∨ n.xx * n.zz - n.xz * n.xz ≠ 0 ∨ n.yy * n.zz - n.yz * n.yz ≠ 0) → ¬ (n.xx ≠ 0 ∨ n.yy ≠ 0 ∨ n.zz ≠ 0) → r = 0 := fun h h' h'' => by rw [hr', if_neg (by omega), if_neg h', if_neg h'']
  clear hr'
  refine PCalls.enter (t := [nmV n, .slice (some ⟨0, 0, none⟩) 3 c, undef, undef, undef, undef, undef, undef, undef, undef, undef, undef, undef, undef, undef, undef, undef, undef, undef, undef, undef, undef, undef, undef, undef, undef, undef, undef, undef, undef, undef, undef, undef, undef, undef, undef, undef, undef, undef, undef, undef, undef, undef, undef, undef, undef, undef, undef, undef, undef, undef, undef, undef, undef, undef, undef, undef, undef, undef, undef, undef, undef, undef, undef, undef, undef, undef, undef, undef, undef, undef, undef, undef, undef, undef]) Tryd.func25 rfl (ro1 _ rfl) rfl fun E => ?_
  repeat' (first
    | with_reducible refine Then.n ?_
    | with_reducible refine Then.r ?_
    | with_reducible refine Then.x ?_
    | with_reducible refine InB.n ?_
    | with_reducible refine InB.r ?_
    | with_reducible refine InB.hit ?_
    | with_reducible refine InB.miss (by decide) ?_
    | ((with_reducible refine AL.on ?_); first
      | (refine AL.gd rfl ?_; first | (refine AL.gskip rfl rfl ?_; (conv => (arg 5; try tactic => exact nrm))) | (refine AL.gs1 rfl rfl (fun hc => ?_) (fun hc => ?_) <;> (try simp only [decide_eq_true_eq, decide_eq_false_iff_not, Bool.not_true, Bool.not_false, Bool.not_eq_true', Bool.not_eq_false', Int.not_lt, Int.not_le, Classical.not_not, ne_eq] at hc) <;> first | (exfalso; first | contradiction | (omega); done) | (conv => (arg 5; try tactic => exact nrm))) | (refine AL.gs0 rfl rfl (fun hc => ?_) (fun hc => ?_) <;> (try simp only [decide_eq_true_eq, decide_eq_false_iff_not, Bool.not_true, Bool.not_false, Bool.not_eq_true', Bool.not_eq_false', Int.not_lt, Int.not_le, Classical.not_not, ne_eq] at hc) <;> first | (exfalso; first | contradiction | (omega); done) | (conv => (arg 5; try tactic => exact nrm))))
      | ((first | ((with_reducible refine AL.k_move ?_); first | (refine AL.q rfl (OQ.move (by conv => lhs; whnf)) ?_)) | ((with_reducible refine AL.k_indexAddr ?_); first | refine AL.q rfl (OQ.idxAddr (ty := 33) (z := 1) (g := false) rfl rfl (by kernel_rfl) (by omega) (by omega)) ?_ | refine AL.q rfl (OQ.idxPtr (ty := 72) (n := 3) (l := 3) (g := true) rfl rfl (by kernel_rfl) (by omega) (by omega)) ?_ | refine AL.q rfl (OQ.idxPtr (ty := 28) (n := 1) (l := 3) (g := false) rfl rfl (by kernel_rfl) (by omega) (by omega)) ?_) | ((with_reducible refine AL.k_binOp ?_); first | refine AL.q rfl (OQ.lss rfl rfl) ?_ | refine AL.q rfl (OQ.neq rfl rfl) ?_ | refine AL.q rfl (OQ.addi rfl rfl (by omega)) ?_ | refine AL.q rfl (OQ.add rfl rfl) ?_ | refine AL.q rfl (OQ.eql rfl rfl) ?_) | ((with_reducible refine AL.k_assign ?_); first | (refine AL.q rfl (OQ.assign (by conv => lhs; whnf)) ?_)) | ((with_reducible refine AL.k_load ?_); first | (refine AL.q rfl (OQ.load1 (ty := 3) rfl (by kernel_rfl) (by conv => lhs; whnf)) ?_) | refine AL.q rfl (OQ.loadN (ty := 74) (n := 12) rfl (by kernel_rfl) (by kernel_rfl) rfl) ?_) | ((with_reducible refine AL.k_call ?_); first | refine AL.q rfl (OQ.lenS (xt := 33) (r := (none, 1, false)) rfl (by kernel_rfl)) ?_ | refine AL.q rfl (OQ.max2 rfl rfl) ?_) | ((with_reducible refine AL.k_fieldAddr ?_); first | refine AL.q rfl (OQ.fieldA (ty := 74) (i := 0) (n := 9) (off := 0) (g := true) rfl (by kernel_rfl) (by decide)) ?_) | ((with_reducible refine AL.k_pick ?_); first | (refine AL.q rfl (OQ.pickT rfl (by with_reducible rfl) (by conv => lhs; whnf)) ?_) | (refine AL.q rfl (OQ.pickF rfl (by with_reducible rfl) (by conv => lhs; whnf)) ?_)) | refine AL.q rfl (OQ.sliceS (ty := 33) (z := 1) (g := false) rfl (by kernel_rfl) rfl (.inl rfl) rfl rfl (by decide) (by decide) (by decide)) ?_); (conv => (arg 5; try tactic => exact nrm)))
      | ((first | first | refine AL.pcall (g := 37) rfl (by kernel_rfl) rfl (HD _) ?_); (conv => (arg 5; try tactic => exact nrm)))
      | ((first | first | (refine AL.w rfl (OW.box (by conv => lhs; whnf) (by intro r h; cases h)) ?_)); (conv => (arg 5; try tactic => exact nrm)); (conv => (arg 6; try tactic => exact nrm)))
      | (refine AL.bs rfl (fun hc => ?_) (fun hc => ?_) <;> (fail_if_success (with_reducible exact lit_no hc)) <;> (try simp only [decide_eq_true_eq, decide_eq_false_iff_not, Bool.not_true, Bool.not_false, Bool.not_eq_true', Bool.not_eq_false', Int.not_lt, Int.not_le, Classical.not_not, ne_eq] at hc) <;> first | (exfalso; first | contradiction | (omega); done) | (conv => (arg 5; try tactic => exact nrm)))
      | refine AL.nil ?_)
    | ((with_reducible refine AW.on ?_); first
      | refine AW.seq ?_
      | refine AW.skip ?_
      | refine AW.exit ?_
      | refine AW.ret ?_
      | ((refine AW.block (id := 0) ?_); (refine AW.wk (Wk.forget [false, true, true, false, false, true, false, false, false, false, true, true, true, false, false, false, false, false, false, false, false, false, false, false, false, false, false, false, false, false, false, false, false, false, false, false, false, false, false, false, false, false, false, false, false, false, false, false, false, false, false, false, false, false, false, false, false, false, false, false, false, false, false, false, false, false, false, false, false, false, false, false, false, false, false] rfl) ?_); (conv => (arg 4; simp only [fgt, if_true, if_false, Bool.false_eq_true])); (refine AW.loop (fun n' t' m => ∃ (i b : Int), n' = (3 - i).toNat ∧ ((i = 0 ∧ b = 0) ∨ (i = 1 ∧ (b = 0 ∨ b = 1 ∨ b = 2) ∧ (b = 2 ↔ (n.xx * n.yy - n.xy * n.xy ≠ 0 ∨ n.xx * n.zz - n.xz * n.xz ≠ 0)) ∧ (b = 0 ↔ ¬ n.xx ≠ 0 ∧ ¬ (n.xx * n.yy - n.xy * n.xy ≠ 0 ∨ n.xx * n.zz - n.xz * n.xz ≠ 0))) ∨ (i = 2 ∧ (b = 0 ∨ b = 1 ∨ b = 2) ∧ (b = 2 ↔ (n.xx * n.yy - n.xy * n.xy ≠ 0 ∨ n.xx * n.zz - n.xz * n.xz ≠ 0 ∨ n.yy * n.zz - n.yz * n.yz ≠ 0)) ∧ (b = 0 ↔ ¬ (n.xx ≠ 0 ∨ n.yy ≠ 0) ∧ ¬ (n.xx * n.yy - n.xy * n.xy ≠ 0 ∨ n.xx * n.zz - n.xz * n.xz ≠ 0 ∨ n.yy * n.zz - n.yz * n.yz ≠ 0))) ∨ (i = 3 ∧ (b = 0 ∨ b = 1 ∨ b = 2) ∧ (b = 2 ↔ (n.xx * n.yy - n.xy * n.xy ≠ 0 ∨ n.xx * n.zz - n.xz * n.xz ≠ 0 ∨ n.yy * n.zz - n.yz * n.yz ≠ 0)) ∧ (b = 0 ↔ ¬ (n.xx ≠ 0 ∨ n.yy ≠ 0 ∨ n.zz ≠ 0) ∧ ¬ (n.xx * n.yy - n.xy * n.xy ≠ 0 ∨ n.xx * n.zz - n.xz * n.xz ≠ 0 ∨ n.yy * n.zz - n.yz * n.yz ≠ 0)))) ∧ t' = [junk, .slice (some ⟨0, 0, none⟩) 3 c, .pointer (some ⟨1, 0, none⟩), junk, junk, .int .i64 (b), junk, junk, junk, junk, .slice (some ⟨0, 0, none⟩) 3 c, .int .i64 (3), .int .i64 (i), junk, junk, junk, junk, junk, junk, junk, junk, junk, junk, junk, junk, junk, junk, junk, junk, junk, junk, junk, junk, junk, junk, junk, junk, junk, junk, junk, junk, junk, junk, junk, junk, junk, junk, junk, junk, junk, junk, junk, junk, junk, junk, junk, junk, junk, junk, junk, junk, junk, junk, junk, junk, junk, junk, junk, junk, junk, junk, junk, junk, junk, junk] ∧ m = [some ⟨[.int .i64 0, .int .i64 1, .int .i64 2], false, 0⟩, some ⟨[.int .i64 n.xx, .int .i64 n.xy, .int .i64 n.xz, .int .i64 n.xy, .int .i64 n.yy, .int .i64 n.yz, .int .i64 n.xz, .int .i64 n.yz, .int .i64 n.zz, .int .i64 n.p, .int .i64 n.q, .int .i64 n.r], true, 0⟩]) (3) (by exact ⟨0, 0, rfl, .inl ⟨rfl, rfl⟩, rfl, rfl⟩) ?_); (rintro n' t' m ⟨i, b, rfl, hi, rfl, rfl⟩))
      | (refine AW.block (id := 2) ?_; refine AW.unroll 3 ?_)
      | refine AW.block ?_
      | (refine AW.draw (id := 10) 27 #[0, 0, 0, 5, 15, 31, 0, 0, 0, 320, 960, 1984, 4095, 0, 0, 0, 40960, 122880, 253952, 0, 0, 0, 2621440, 7864320, 16252928, 33546240, 67108863] (by kernel_rfl) (by kernel_rfl) ?_; (conv => (arg 8; simp only [List.take_succ_cons, List.take_zero])))
      | (refine AW.region (id := 3) ?_; (rcases hi with ⟨rfl, rfl⟩ | ⟨rfl, hb⟩ | ⟨rfl, hb⟩ | ⟨rfl, hb⟩))
      | refine AW.region ?_
      | (refine AW.conds rfl (fun hc => ?_) (fun hc => ?_) <;> (try simp only [decide_eq_true_eq, decide_eq_false_iff_not, Bool.not_true, Bool.not_false, Bool.not_eq_true', Bool.not_eq_false', Int.not_lt, Int.not_le, Classical.not_not, ne_eq] at hc) <;> first | (exfalso; first | contradiction | (omega); done) | skip))
    | ((with_reducible refine AD.on ?_); first
      | ((first | ((with_reducible refine AD.k_move ?_); first | (refine AD.q rfl (OQ.move (by conv => lhs; whnf)) rfl rfl rfl ?_)) | ((with_reducible refine AD.k_indexAddr ?_); first | refine AD.q rfl (OQ.idxPtr (ty := 72) (n := 3) (l := 3) (g := true) rfl rfl (by kernel_rfl) (by omega) (by omega)) rfl rfl rfl ?_ | refine AD.q rfl (OQ.idxPtr (ty := 28) (n := 1) (l := 3) (g := false) rfl rfl (by kernel_rfl) (by omega) (by omega)) rfl rfl rfl ?_) | ((with_reducible refine AD.k_binOp ?_); first | refine AD.q rfl (OQ.muli rfl rfl (by omega)) rfl rfl rfl ?_ | refine AD.q rfl (OQ.mul rfl rfl) rfl rfl rfl ?_ | refine AD.q rfl (OQ.neq rfl rfl) rfl rfl rfl ?_) | ((with_reducible refine AD.k_load ?_); first | (refine AD.q rfl (OQ.load1 (ty := 3) rfl (by kernel_rfl) (by conv => lhs; whnf)) rfl rfl rfl ?_)) | ((with_reducible refine AD.k_fieldAddr ?_); first | refine AD.q rfl (OQ.fieldA (ty := 74) (i := 0) (n := 9) (off := 0) (g := true) rfl (by kernel_rfl) (by decide)) rfl rfl rfl ?_)); (conv => (arg 10; try tactic => exact nrm)))
      | (refine AD.nil ?_; (conv => (arg 4; simp only [List.drop_succ_cons, List.drop_zero, List.drop_nil])); (conv => (arg 5; try tactic => exact nrm)); (conv => (arg 6; try tactic => exact nrm))))
    | with_reducible refine AR.s ?_
    | ((with_reducible refine AR.out ?_); omega; done)
    | ((with_reducible refine ex_on ?_); first | (refine ⟨_, _, _, ?_, Wk.forget [false, true, true, false, false, true, false, false, false, false, true, true, true, false, false, false, false, false, false, false, false, false, false, false, false, false, false, false, false, false, false, false, false, false, false, false, false, false, false, false, false, false, false, false, false, false, false, false, false, false, false, false, false, false, false, false, false, false, false, false, false, false, false, false, false, false, false, false, false, false, false, false, false, false, false] rfl, 1, _, rfl, .inr (.inl ⟨rfl, ?_⟩), rfl, rfl⟩ <;> omega) | (refine ⟨_, _, _, ?_, Wk.forget [false, true, true, false, false, true, false, false, false, false, true, true, true, false, false, false, false, false, false, false, false, false, false, false, false, false, false, false, false, false, false, false, false, false, false, false, false, false, false, false, false, false, false, false, false, false, false, false, false, false, false, false, false, false, false, false, false, false, false, false, false, false, false, false, false, false, false, false, false, false, false, false, false, false, false] rfl, 2, _, rfl, .inr (.inr (.inl ⟨rfl, ?_⟩)), rfl, rfl⟩ <;> omega) | (refine ⟨_, _, _, ?_, Wk.forget [false, true, true, false, false, true, false, false, false, false, true, true, true, false, false, false, false, false, false, false, false, false, false, false, false, false, false, false, false, false, false, false, false, false, false, false, false, false, false, false, false, false, false, false, false, false, false, false, false, false, false, false, false, false, false, false, false, false, false, false, false, false, false, false, false, false, false, false, false, false, false, false, false, false, false] rfl, 3, _, rfl, .inr (.inr (.inr ⟨rfl, ?_⟩)), rfl, rfl⟩ <;> omega))
    | ((with_reducible refine FinP.on ?_); (first | refine FinP.ret (.tmp (by conv => lhs; whnf) .nil) ?_ rfl | refine FinP.end (.tmp (by conv => lhs; whnf) .nil) ?_ rfl); (try simp only [pack, List.drop, List.take]); all_goals ((congr 1; omega))))
theorem rk2x_c (n : Nm) (hN : NB n) (c : Nat) : PCalls Tryd.prog 25 [nmV n, .slice (some ⟨0, 0, none⟩) 2 c] [some ⟨[.int .i64 1, .int .i64 2], false, 1⟩] (.int .i64 (rkT n.yy n.zz (sxN n).mx)) := by
  have h1 := mulc 200000000000000 hN.yy hN.zz (by decide)
  have h4 := mulc 200000000000000 hN.yz hN.yz (by decide)
  have hcm : n.yy * n.zz = n.zz * n.yy := Int.mul_comm _ _
  obtain ⟨r, hr⟩ : ∃ r, r = rkT n.yy n.zz (sxN n).mx := ⟨_, rfl⟩
  rw [← hr]
  have hr' : r = if n.yy * n.zz - n.yz * n.yz ≠ 0 then 2 else if n.yy ≠ 0 ∨ n.zz ≠ 0 then 1 else 0 := hr
  clear hr
  have r2 : n.yy * n.zz - n.yz * n.yz ≠ 0 → r = 2 := fun h => by rw [hr', if_pos h]
  have r1 : n.yy * n.zz - n.yz * n.yz = 0 → (n.yy ≠ 0 ∨ n.zz ≠ 0) → r = 1 := fun h h' => by rw [hr', if_neg (by omega), if_pos h']
  have r0 : n.yy * n.zz - n.yz * n.yz = 0 → ¬ (n.yy ≠ 0 ∨ n.zz ≠ 0) → r = 0 := fun h h' => by rw [hr', if_neg (by omega), if_neg h']
  clear hr'
  refine PCalls.enter (t := [nmV n, .slice (some ⟨0, 0, none⟩) 2 c, undef, undef, undef, undef, undef, undef, undef, undef, undef, undef, undef, undef, undef, undef, undef, undef, undef, undef, undef, undef, undef, undef, undef, undef, undef, undef, undef, undef, undef, undef, undef, undef, undef, undef, undef, undef, undef, undef, undef, undef, undef, undef, undef, undef, undef, undef, undef, undef, undef, undef, undef, undef, undef, undef, undef, undef, undef, undef, undef, undef, undef, undef, undef, undef, undef, undef, undef, undef, undef, undef, undef, undef, undef]) Tryd.func25 rfl (ro1 _ rfl) rfl fun E => ?_
  repeat' (first
    | with_reducible refine Then.n ?_
    | with_reducible refine Then.r ?_
    | with_reducible refine Then.x ?_
    | with_reducible refine InB.n ?_
    | with_reducible refine InB.r ?_
    | with_reducible refine InB.hit ?_
    | with_reducible refine InB.miss (by decide) ?_
    | ((with_reducible refine AL.on ?_); first
      | (refine AL.gd rfl ?_; first | (refine AL.gskip rfl rfl ?_; (conv => (arg 5; try tactic => exact nrm))) | (refine AL.gs1 rfl rfl (fun hc => ?_) (fun hc => ?_) <;> (try simp only [decide_eq_true_eq, decide_eq_false_iff_not, Bool.not_true, Bool.not_false, Bool.not_eq_true', Bool.not_eq_false', Int.not_lt, Int.not_le, Classical.not_not, ne_eq] at hc) <;> first | (exfalso; first | contradiction | (omega); done) | (conv => (arg 5; try tactic => exact nrm))) | (refine AL.gs0 rfl rfl (fun hc => ?_) (fun hc => ?_) <;> (try simp only [decide_eq_true_eq, decide_eq_false_iff_not, Bool.not_true, Bool.not_false, Bool.not_eq_true', Bool.not_eq_false', Int.not_lt, Int.not_le, Classical.not_not, ne_eq] at hc) <;> first | (exfalso; first | contradiction | (omega); done) | (conv => (arg 5; try tactic => exact nrm))))
      | ((first | ((with_reducible refine AL.k_move ?_); first | (refine AL.q rfl (OQ.move (by conv => lhs; whnf)) ?_)) | ((with_reducible refine AL.k_indexAddr ?_); first | refine AL.q rfl (OQ.idxAddr (ty := 33) (z := 1) (g := false) rfl rfl (by kernel_rfl) (by omega) (by omega)) ?_ | refine AL.q rfl (OQ.idxPtr (ty := 72) (n := 3) (l := 3) (g := true) rfl rfl (by kernel_rfl) (by omega) (by omega)) ?_ | refine AL.q rfl (OQ.idxPtr (ty := 28) (n := 1) (l := 3) (g := false) rfl rfl (by kernel_rfl) (by omega) (by omega)) ?_) | ((with_reducible refine AL.k_binOp ?_); first | refine AL.q rfl (OQ.lss rfl rfl) ?_ | refine AL.q rfl (OQ.neq rfl rfl) ?_ | refine AL.q rfl (OQ.addi rfl rfl (by omega)) ?_ | refine AL.q rfl (OQ.add rfl rfl) ?_ | refine AL.q rfl (OQ.eql rfl rfl) ?_) | ((with_reducible refine AL.k_assign ?_); first | (refine AL.q rfl (OQ.assign (by conv => lhs; whnf)) ?_)) | ((with_reducible refine AL.k_load ?_); first | (refine AL.q rfl (OQ.load1 (ty := 3) rfl (by kernel_rfl) (by conv => lhs; whnf)) ?_) | refine AL.q rfl (OQ.loadN (ty := 74) (n := 12) rfl (by kernel_rfl) (by kernel_rfl) rfl) ?_) | ((with_reducible refine AL.k_call ?_); first | refine AL.q rfl (OQ.lenS (xt := 33) (r := (none, 1, false)) rfl (by kernel_rfl)) ?_ | refine AL.q rfl (OQ.max2 rfl rfl) ?_) | ((with_reducible refine AL.k_fieldAddr ?_); first | refine AL.q rfl (OQ.fieldA (ty := 74) (i := 0) (n := 9) (off := 0) (g := true) rfl (by kernel_rfl) (by decide)) ?_) | ((with_reducible refine AL.k_pick ?_); first | (refine AL.q rfl (OQ.pickT rfl (by with_reducible rfl) (by conv => lhs; whnf)) ?_) | (refine AL.q rfl (OQ.pickF rfl (by with_reducible rfl) (by conv => lhs; whnf)) ?_)) | refine AL.q rfl (OQ.sliceS (ty := 33) (z := 1) (g := false) rfl (by kernel_rfl) rfl (.inr rfl) rfl rfl (by decide) (by decide) (by decide)) ?_); (conv => (arg 5; try tactic => exact nrm)))
      | ((first | first | refine AL.pcall (g := 37) rfl (by kernel_rfl) rfl ((by exact False.elim (by omega))) ?_); (conv => (arg 5; try tactic => exact nrm)))
      | ((first | first | (refine AL.w rfl (OW.box (by conv => lhs; whnf) (by intro r h; cases h)) ?_)); (conv => (arg 5; try tactic => exact nrm)); (conv => (arg 6; try tactic => exact nrm)))
      | (refine AL.bs rfl (fun hc => ?_) (fun hc => ?_) <;> (fail_if_success (with_reducible exact lit_no hc)) <;> (try simp only [decide_eq_true_eq, decide_eq_false_iff_not, Bool.not_true, Bool.not_false, Bool.not_eq_true', Bool.not_eq_false', Int.not_lt, Int.not_le, Classical.not_not, ne_eq] at hc) <;> first | (exfalso; first | contradiction | (omega); done) | (conv => (arg 5; try tactic => exact nrm)))
      | refine AL.nil ?_)
    | ((with_reducible refine AW.on ?_); first
      | refine AW.seq ?_
      | refine AW.skip ?_
      | refine AW.exit ?_
      | refine AW.ret ?_
      | (refine AW.block (id := 0) ?_; refine AW.unroll 3 ?_)
      | (refine AW.block (id := 2) ?_; refine AW.unroll 2 ?_)
      | refine AW.block ?_
      | (refine AW.draw (id := 10) 27 #[0, 0, 0, 5, 15, 31, 0, 0, 0, 320, 960, 1984, 4095, 0, 0, 0, 40960, 122880, 253952, 0, 0, 0, 2621440, 7864320, 16252928, 33546240, 67108863] (by kernel_rfl) (by kernel_rfl) ?_; (conv => (arg 8; simp only [List.take_succ_cons, List.take_zero])))
      | refine AW.region ?_
      | (refine AW.conds rfl (fun hc => ?_) (fun hc => ?_) <;> (try simp only [decide_eq_true_eq, decide_eq_false_iff_not, Bool.not_true, Bool.not_false, Bool.not_eq_true', Bool.not_eq_false', Int.not_lt, Int.not_le, Classical.not_not, ne_eq] at hc) <;> first | (exfalso; first | contradiction | (omega); done) | skip))
    | ((with_reducible refine AD.on ?_); first
      | ((first | ((with_reducible refine AD.k_move ?_); first | (refine AD.q rfl (OQ.move (by conv => lhs; whnf)) rfl rfl rfl ?_)) | ((with_reducible refine AD.k_indexAddr ?_); first | refine AD.q rfl (OQ.idxPtr (ty := 72) (n := 3) (l := 3) (g := true) rfl rfl (by kernel_rfl) (by omega) (by omega)) rfl rfl rfl ?_ | refine AD.q rfl (OQ.idxPtr (ty := 28) (n := 1) (l := 3) (g := false) rfl rfl (by kernel_rfl) (by omega) (by omega)) rfl rfl rfl ?_) | ((with_reducible refine AD.k_binOp ?_); first | refine AD.q rfl (OQ.muli rfl rfl (by omega)) rfl rfl rfl ?_ | refine AD.q rfl (OQ.mul rfl rfl) rfl rfl rfl ?_ | refine AD.q rfl (OQ.neq rfl rfl) rfl rfl rfl ?_) | ((with_reducible refine AD.k_load ?_); first | (refine AD.q rfl (OQ.load1 (ty := 3) rfl (by kernel_rfl) (by conv => lhs; whnf)) rfl rfl rfl ?_)) | ((with_reducible refine AD.k_fieldAddr ?_); first | refine AD.q rfl (OQ.fieldA (ty := 74) (i := 0) (n := 9) (off := 0) (g := true) rfl (by kernel_rfl) (by decide)) rfl rfl rfl ?_)); (conv => (arg 10; try tactic => exact nrm)))
      | (refine AD.nil ?_; (conv => (arg 4; simp only [List.drop_succ_cons, List.drop_zero, List.drop_nil])); (conv => (arg 5; try tactic => exact nrm)); (conv => (arg 6; try tactic => exact nrm))))
    | with_reducible refine AR.s ?_
    | ((with_reducible refine AR.out ?_); omega; done)
    | ((with_reducible refine FinP.on ?_); (first | refine FinP.ret (.tmp (by conv => lhs; whnf) .nil) ?_ rfl | refine FinP.end (.tmp (by conv => lhs; whnf) .nil) ?_ rfl); (try simp only [pack, List.drop, List.take]); all_goals ((congr 1; omega))))
theorem rk2y_c (n : Nm) (hN : NB n) (c : Nat) : PCalls Tryd.prog 25 [nmV n, .slice (some ⟨0, 0, none⟩) 2 c] [some ⟨[.int .i64 2, .int .i64 0], false, 1⟩] (.int .i64 (rkT n.zz n.xx (sxN n).my)) := by
  have h1 := mulc 200000000000000 hN.zz hN.xx (by decide)
  have h4 := mulc 200000000000000 hN.xz hN.xz (by decide)
  have hcm : n.zz * n.xx = n.xx * n.zz := Int.mul_comm _ _
  obtain ⟨r, hr⟩ : ∃ r, r = rkT n.zz n.xx (sxN n).my := ⟨_, rfl⟩
  rw [← hr]
  have hr' : r = if n.xx * n.zz - n.xz * n.xz ≠ 0 then 2 else if n.zz ≠ 0 ∨ n.xx ≠ 0 then 1 else 0 := hr
  clear hr
  have r2 : n.xx * n.zz - n.xz * n.xz ≠ 0 → r = 2 := fun h => by rw [hr', if_pos h]
  have r1 : n.xx * n.zz - n.xz * n.xz = 0 → (n.zz ≠ 0 ∨ n.xx ≠ 0) → r = 1 := fun h h' => by rw [hr', if_neg (by omega), if_pos h']
  have r0 : n.xx * n.zz - n.xz * n.xz = 0 → ¬ (n.zz ≠ 0 ∨ n.xx ≠ 0) → r = 0 := fun h h' => by rw [hr', if_neg (by omega), if_neg h']
  clear hr'
  refine PCalls.enter (t := [nmV n, .slice (some ⟨0, 0, none⟩) 2 c, undef, undef, undef, undef, undef, undef, undef, undef, undef, undef, undef, undef, undef, undef, undef, undef, undef, undef, undef, undef, undef, undef, undef, undef, undef, undef, undef, undef, undef, undef, undef, undef, undef, undef, undef, undef, undef, undef, undef, undef, undef, undef, undef, undef, undef, undef, undef, undef, undef, undef, undef, undef, undef, undef, undef, undef, undef, undef, undef, undef, undef, undef, undef, undef, undef, undef, undef, undef, undef, undef, undef, undef, undef]) Tryd.func25 rfl (ro1 _ rfl) rfl fun E => ?_
  repeat' (first
    | with_reducible refine Then.n ?_
    | with_reducible refine Then.r ?_
    | with_reducible refine Then.x ?_
    | with_reducible refine InB.n ?_
    | with_reducible refine InB.r ?_
    | with_reducible refine InB.hit ?_
    | with_reducible refine InB.miss (by decide) ?_
    | ((with_reducible refine AL.on ?_); first
      | (refine AL.gd rfl ?_; first | (refine AL.gskip rfl rfl ?_; (conv => (arg 5; try tactic => exact nrm))) | (refine AL.gs1 rfl rfl (fun hc => ?_) (fun hc => ?_) <;> (try simp only [decide_eq_true_eq, decide_eq_false_iff_not, Bool.not_true, Bool.not_false, Bool.not_eq_true', Bool.not_eq_false', Int.not_lt, Int.not_le, Classical.not_not, ne_eq] at hc) <;> first | (exfalso; first | contradiction | (omega); done) | (conv => (arg 5; try tactic => exact nrm))) | (refine AL.gs0 rfl rfl (fun hc => ?_) (fun hc => ?_) <;> (try simp only [decide_eq_true_eq, decide_eq_false_iff_not, Bool.not_true, Bool.not_false, Bool.not_eq_true', Bool.not_eq_false', Int.not_lt, Int.not_le, Classical.not_not, ne_eq] at hc) <;> first | (exfalso; first | contradiction | (omega); done) | (conv => (arg 5; try tactic => exact nrm))))
      | ((first | ((with_reducible refine AL.k_move ?_); first | (refine AL.q rfl (OQ.move (by conv => lhs; whnf)) ?_)) | ((with_reducible refine AL.k_indexAddr ?_); first | refine AL.q rfl (OQ.idxAddr (ty := 33) (z := 1) (g := false) rfl rfl (by kernel_rfl) (by omega) (by omega)) ?_ | refine AL.q rfl (OQ.idxPtr (ty := 72) (n := 3) (l := 3) (g := true) rfl rfl (by kernel_rfl) (by omega) (by omega)) ?_ | refine AL.q rfl (OQ.idxPtr (ty := 28) (n := 1) (l := 3) (g := false) rfl rfl (by kernel_rfl) (by omega) (by omega)) ?_) | ((with_reducible refine AL.k_binOp ?_); first | refine AL.q rfl (OQ.lss rfl rfl) ?_ | refine AL.q rfl (OQ.neq rfl rfl) ?_ | refine AL.q rfl (OQ.addi rfl rfl (by omega)) ?_ | refine AL.q rfl (OQ.add rfl rfl) ?_ | refine AL.q rfl (OQ.eql rfl rfl) ?_) | ((with_reducible refine AL.k_assign ?_); first | (refine AL.q rfl (OQ.assign (by conv => lhs; whnf)) ?_)) | ((with_reducible refine AL.k_load ?_); first | (refine AL.q rfl (OQ.load1 (ty := 3) rfl (by kernel_rfl) (by conv => lhs; whnf)) ?_) | refine AL.q rfl (OQ.loadN (ty := 74) (n := 12) rfl (by kernel_rfl) (by kernel_rfl) rfl) ?_) | ((with_reducible refine AL.k_call ?_); first | refine AL.q rfl (OQ.lenS (xt := 33) (r := (none, 1, false)) rfl (by kernel_rfl)) ?_ | refine AL.q rfl (OQ.max2 rfl rfl) ?_) | ((with_reducible refine AL.k_fieldAddr ?_); first | refine AL.q rfl (OQ.fieldA (ty := 74) (i := 0) (n := 9) (off := 0) (g := true) rfl (by kernel_rfl) (by decide)) ?_) | ((with_reducible refine AL.k_pick ?_); first | (refine AL.q rfl (OQ.pickT rfl (by with_reducible rfl) (by conv => lhs; whnf)) ?_) | (refine AL.q rfl (OQ.pickF rfl (by with_reducible rfl) (by conv => lhs; whnf)) ?_)) | refine AL.q rfl (OQ.sliceS (ty := 33) (z := 1) (g := false) rfl (by kernel_rfl) rfl (.inr rfl) rfl rfl (by decide) (by decide) (by decide)) ?_); (conv => (arg 5; try tactic => exact nrm)))
      | ((first | first | refine AL.pcall (g := 37) rfl (by kernel_rfl) rfl ((by exact False.elim (by omega))) ?_); (conv => (arg 5; try tactic => exact nrm)))
      | ((first | first | (refine AL.w rfl (OW.box (by conv => lhs; whnf) (by intro r h; cases h)) ?_)); (conv => (arg 5; try tactic => exact nrm)); (conv => (arg 6; try tactic => exact nrm)))
      | (refine AL.bs rfl (fun hc => ?_) (fun hc => ?_) <;> (fail_if_success (with_reducible exact lit_no hc)) <;> (try simp only [decide_eq_true_eq, decide_eq_false_iff_not, Bool.not_true, Bool.not_false, Bool.not_eq_true', Bool.not_eq_false', Int.not_lt, Int.not_le, Classical.not_not, ne_eq] at hc) <;> first | (exfalso; first | contradiction | (omega); done) | (conv => (arg 5; try tactic => exact nrm)))
      | refine AL.nil ?_)
    | ((with_reducible refine AW.on ?_); first
      | refine AW.seq ?_
      | refine AW.skip ?_
      | refine AW.exit ?_
      | refine AW.ret ?_
      | (refine AW.block (id := 0) ?_; refine AW.unroll 3 ?_)
      | (refine AW.block (id := 2) ?_; refine AW.unroll 2 ?_)
      | refine AW.block ?_
      | (refine AW.draw (id := 10) 27 #[0, 0, 0, 5, 15, 31, 0, 0, 0, 320, 960, 1984, 4095, 0, 0, 0, 40960, 122880, 253952, 0, 0, 0, 2621440, 7864320, 16252928, 33546240, 67108863] (by kernel_rfl) (by kernel_rfl) ?_; (conv => (arg 8; simp only [List.take_succ_cons, List.take_zero])))
      | refine AW.region ?_
      | (refine AW.conds rfl (fun hc => ?_) (fun hc => ?_) <;> (try simp only [decide_eq_true_eq, decide_eq_false_iff_not, Bool.not_true, Bool.not_false, Bool.not_eq_true', Bool.not_eq_false', Int.not_lt, Int.not_le, Classical.not_not, ne_eq] at hc) <;> first | (exfalso; first | contradiction | (omega); done) | skip))
    | ((with_reducible refine AD.on ?_); first
      | ((first | ((with_reducible refine AD.k_move ?_); first | (refine AD.q rfl (OQ.move (by conv => lhs; whnf)) rfl rfl rfl ?_)) | ((with_reducible refine AD.k_indexAddr ?_); first | refine AD.q rfl (OQ.idxPtr (ty := 72) (n := 3) (l := 3) (g := true) rfl rfl (by kernel_rfl) (by omega) (by omega)) rfl rfl rfl ?_ | refine AD.q rfl (OQ.idxPtr (ty := 28) (n := 1) (l := 3) (g := false) rfl rfl (by kernel_rfl) (by omega) (by omega)) rfl rfl rfl ?_) | ((with_reducible refine AD.k_binOp ?_); first | refine AD.q rfl (OQ.muli rfl rfl (by omega)) rfl rfl rfl ?_ | refine AD.q rfl (OQ.mul rfl rfl) rfl rfl rfl ?_ | refine AD.q rfl (OQ.neq rfl rfl) rfl rfl rfl ?_) | ((with_reducible refine AD.k_load ?_); first | (refine AD.q rfl (OQ.load1 (ty := 3) rfl (by kernel_rfl) (by conv => lhs; whnf)) rfl rfl rfl ?_)) | ((with_reducible refine AD.k_fieldAddr ?_); first | refine AD.q rfl (OQ.fieldA (ty := 74) (i := 0) (n := 9) (off := 0) (g := true) rfl (by kernel_rfl) (by decide)) rfl rfl rfl ?_)); (conv => (arg 10; try tactic => exact nrm)))
      | (refine AD.nil ?_; (conv => (arg 4; simp only [List.drop_succ_cons, List.drop_zero, List.drop_nil])); (conv => (arg 5; try tactic => exact nrm)); (conv => (arg 6; try tactic => exact nrm))))
    | with_reducible refine AR.s ?_
    | ((with_reducible refine AR.out ?_); omega; done)
    | ((with_reducible refine FinP.on ?_); (first | refine FinP.ret (.tmp (by conv => lhs; whnf) .nil) ?_ rfl | refine FinP.end (.tmp (by conv => lhs; whnf) .nil) ?_ rfl); (try simp only [pack, List.drop, List.take]); all_goals ((congr 1; omega))))
theorem rk2z_c (n : Nm) (hN : NB n) (c : Nat) : PCalls Tryd.prog 25 [nmV n, .slice (some ⟨0, 0, none⟩) 2 c] [some ⟨[.int .i64 0, .int .i64 1], false, 1⟩] (.int .i64 (rkT n.xx n.yy (sxN n).mz)) := by
  have h1 := mulc 200000000000000 hN.xx hN.yy (by decide)
  have h4 := mulc 200000000000000 hN.xy hN.xy (by decide)
  have hcm : n.xx * n.yy = n.yy * n.xx := Int.mul_comm _ _
  obtain ⟨r, hr⟩ : ∃ r, r = rkT n.xx n.yy (sxN n).mz := ⟨_, rfl⟩
  rw [← hr]
  have hr' : r = if n.xx * n.yy - n.xy * n.xy ≠ 0 then 2 else if n.xx ≠ 0 ∨ n.yy ≠ 0 then 1 else 0 := hr
  clear hr
  have r2 : n.xx * n.yy - n.xy * n.xy ≠ 0 → r = 2 := fun h => by rw [hr', if_pos h]
  have r1 : n.xx * n.yy - n.xy * n.xy = 0 → (n.xx ≠ 0 ∨ n.yy ≠ 0) → r = 1 := fun h h' => by rw [hr', if_neg (by omega), if_pos h']
  have r0 : n.xx * n.yy - n.xy * n.xy = 0 → ¬ (n.xx ≠ 0 ∨ n.yy ≠ 0) → r = 0 := fun h h' => by rw [hr', if_neg (by omega), if_neg h']
  clear hr'
  refine PCalls.enter (t := [nmV n, .slice (some ⟨0, 0, none⟩) 2 c, undef, undef, undef, undef, undef, undef, undef, undef, undef, undef, undef, undef, undef, undef, undef, undef, undef, undef, undef, undef, undef, undef, undef, undef, undef, undef, undef, undef, undef, undef, undef, undef, undef, undef, undef, undef, undef, undef, undef, undef, undef, undef, undef, undef, undef, undef, undef, undef, undef, undef, undef, undef, undef, undef, undef, undef, undef, undef, undef, undef, undef, undef, undef, undef, undef, undef, undef, undef, undef, undef, undef, undef, undef]) Tryd.func25 rfl (ro1 _ rfl) rfl fun E => ?_
  repeat' (first
    | with_reducible refine Then.n ?_
    | with_reducible refine Then.r ?_
    | with_reducible refine Then.x ?_
    | with_reducible refine InB.n ?_
    | with_reducible refine InB.r ?_
    | with_reducible refine InB.hit ?_
    | with_reducible refine InB.miss (by decide) ?_
    | ((with_reducible refine AL.on ?_); first
      | (refine AL.gd rfl ?_; first | (refine AL.gskip rfl rfl ?_; (conv => (arg 5; try tactic => exact nrm))) | (refine AL.gs1 rfl rfl (fun hc => ?_) (fun hc => ?_) <;> (try simp only [decide_eq_true_eq, decide_eq_false_iff_not, Bool.not_true, Bool.not_false, Bool.not_eq_true', Bool.not_eq_false', Int.not_lt, Int.not_le, Classical.not_not, ne_eq] at hc) <;> first | (exfalso; first | contradiction | (omega); done) | (conv => (arg 5; try tactic => exact nrm))) | (refine AL.gs0 rfl rfl (fun hc => ?_) (fun hc => ?_) <;> (try simp only [decide_eq_true_eq, decide_eq_false_iff_not, Bool.not_true, Bool.not_false, Bool.not_eq_true', Bool.not_eq_false', Int.not_lt, Int.not_le, Classical.not_not, ne_eq] at hc) <;> first | (exfalso; first | contradiction | (omega); done) | (conv => (arg 5; try tactic => exact nrm))))
      | ((first | ((with_reducible refine AL.k_move ?_); first | (refine AL.q rfl (OQ.move (by conv => lhs; whnf)) ?_)) | ((with_reducible refine AL.k_indexAddr ?_); first | refine AL.q rfl (OQ.idxAddr (ty := 33) (z := 1) (g := false) rfl rfl (by kernel_rfl) (by omega) (by omega)) ?_ | refine AL.q rfl (OQ.idxPtr (ty := 72) (n := 3) (l := 3) (g := true) rfl rfl (by kernel_rfl) (by omega) (by omega)) ?_ | refine AL.q rfl (OQ.idxPtr (ty := 28) (n := 1) (l := 3) (g := false) rfl rfl (by kernel_rfl) (by omega) (by omega)) ?_) | ((with_reducible refine AL.k_binOp ?_); first | refine AL.q rfl (OQ.lss rfl rfl) ?_ | refine AL.q rfl (OQ.neq rfl rfl) ?_ | refine AL.q rfl (OQ.addi rfl rfl (by omega)) ?_ | refine AL.q rfl (OQ.add rfl rfl) ?_ | refine AL.q rfl (OQ.eql rfl rfl) ?_) | ((with_reducible refine AL.k_assign ?_); first | (refine AL.q rfl (OQ.assign (by conv => lhs; whnf)) ?_)) | ((with_reducible refine AL.k_load ?_); first | (refine AL.q rfl (OQ.load1 (ty := 3) rfl (by kernel_rfl) (by conv => lhs; whnf)) ?_) | refine AL.q rfl (OQ.loadN (ty := 74) (n := 12) rfl (by kernel_rfl) (by kernel_rfl) rfl) ?_) | ((with_reducible refine AL.k_call ?_); first | refine AL.q rfl (OQ.lenS (xt := 33) (r := (none, 1, false)) rfl (by kernel_rfl)) ?_ | refine AL.q rfl (OQ.max2 rfl rfl) ?_) | ((with_reducible refine AL.k_fieldAddr ?_); first | refine AL.q rfl (OQ.fieldA (ty := 74) (i := 0) (n := 9) (off := 0) (g := true) rfl (by kernel_rfl) (by decide)) ?_) | ((with_reducible refine AL.k_pick ?_); first | (refine AL.q rfl (OQ.pickT rfl (by with_reducible rfl) (by conv => lhs; whnf)) ?_) | (refine AL.q rfl (OQ.pickF rfl (by with_reducible rfl) (by conv => lhs; whnf)) ?_)) | refine AL.q rfl (OQ.sliceS (ty := 33) (z := 1) (g := false) rfl (by kernel_rfl) rfl (.inr rfl) rfl rfl (by decide) (by decide) (by decide)) ?_); (conv => (arg 5; try tactic => exact nrm)))
      | ((first | first | refine AL.pcall (g := 37) rfl (by kernel_rfl) rfl ((by exact False.elim (by omega))) ?_); (conv => (arg 5; try tactic => exact nrm)))
      | ((first | first | (refine AL.w rfl (OW.box (by conv => lhs; whnf) (by intro r h; cases h)) ?_)); (conv => (arg 5; try tactic => exact nrm)); (conv => (arg 6; try tactic => exact nrm)))
      | (refine AL.bs rfl (fun hc => ?_) (fun hc => ?_) <;> (fail_if_success (with_reducible exact lit_no hc)) <;> (try simp only [decide_eq_true_eq, decide_eq_false_iff_not, Bool.not_true, Bool.not_false, Bool.not_eq_true', Bool.not_eq_false', Int.not_lt, Int.not_le, Classical.not_not, ne_eq] at hc) <;> first | (exfalso; first | contradiction | (omega); done) | (conv => (arg 5; try tactic => exact nrm)))
      | refine AL.nil ?_)
    | ((with_reducible refine AW.on ?_); first
      | refine AW.seq ?_
      | refine AW.skip ?_
      | refine AW.exit ?_
      | refine AW.ret ?_
      | (refine AW.block (id := 0) ?_; refine AW.unroll 3 ?_)
      | (refine AW.block (id := 2) ?_; refine AW.unroll 2 ?_)
      | refine AW.block ?_
      | (refine AW.draw (id := 10) 27 #[0, 0, 0, 5, 15, 31, 0, 0, 0, 320, 960, 1984, 4095, 0, 0, 0, 40960, 122880, 253952, 0, 0, 0, 2621440, 7864320, 16252928, 33546240, 67108863] (by kernel_rfl) (by kernel_rfl) ?_; (conv => (arg 8; simp only [List.take_succ_cons, List.take_zero])))
      | refine AW.region ?_
      | (refine AW.conds rfl (fun hc => ?_) (fun hc => ?_) <;> (try simp only [decide_eq_true_eq, decide_eq_false_iff_not, Bool.not_true, Bool.not_false, Bool.not_eq_true', Bool.not_eq_false', Int.not_lt, Int.not_le, Classical.not_not, ne_eq] at hc) <;> first | (exfalso; first | contradiction | (omega); done) | skip))
    | ((with_reducible refine AD.on ?_); first
      | ((first | ((with_reducible refine AD.k_move ?_); first | (refine AD.q rfl (OQ.move (by conv => lhs; whnf)) rfl rfl rfl ?_)) | ((with_reducible refine AD.k_indexAddr ?_); first | refine AD.q rfl (OQ.idxPtr (ty := 72) (n := 3) (l := 3) (g := true) rfl rfl (by kernel_rfl) (by omega) (by omega)) rfl rfl rfl ?_ | refine AD.q rfl (OQ.idxPtr (ty := 28) (n := 1) (l := 3) (g := false) rfl rfl (by kernel_rfl) (by omega) (by omega)) rfl rfl rfl ?_) | ((with_reducible refine AD.k_binOp ?_); first | refine AD.q rfl (OQ.muli rfl rfl (by omega)) rfl rfl rfl ?_ | refine AD.q rfl (OQ.mul rfl rfl) rfl rfl rfl ?_ | refine AD.q rfl (OQ.neq rfl rfl) rfl rfl rfl ?_) | ((with_reducible refine AD.k_load ?_); first | (refine AD.q rfl (OQ.load1 (ty := 3) rfl (by kernel_rfl) (by conv => lhs; whnf)) rfl rfl rfl ?_)) | ((with_reducible refine AD.k_fieldAddr ?_); first | refine AD.q rfl (OQ.fieldA (ty := 74) (i := 0) (n := 9) (off := 0) (g := true) rfl (by kernel_rfl) (by decide)) rfl rfl rfl ?_)); (conv => (arg 10; try tactic => exact nrm)))
      | (refine AD.nil ?_; (conv => (arg 4; simp only [List.drop_succ_cons, List.drop_zero, List.drop_nil])); (conv => (arg 5; try tactic => exact nrm)); (conv => (arg 6; try tactic => exact nrm))))
    | with_reducible refine AR.s ?_
    | ((with_reducible refine AR.out ?_); omega; done)
    | ((with_reducible refine FinP.on ?_); (first | refine FinP.ret (.tmp (by conv => lhs; whnf) .nil) ?_ rfl | refine FinP.end (.tmp (by conv => lhs; whnf) .nil) ?_ rfl); (try simp only [pack, List.drop, List.take]); all_goals ((congr 1; omega))))
end Go.Proofs.YthgbincoppnpgaaDoor
