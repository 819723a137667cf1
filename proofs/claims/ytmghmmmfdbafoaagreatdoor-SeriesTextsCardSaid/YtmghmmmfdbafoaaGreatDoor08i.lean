/- Chapter 8: normal equations, cofactors, determinant, fit. -/
import Derived.Test.YtmghmmmfdbafoaaGreatDoor08g
set_option linter.unusedSimpArgs false
set_option linter.unusedVariables false
namespace Go.Proofs.YtmghmmmfdbafoaaGreatDoor
open Go Go.RowKit Go.Ab Go.Sr
set_option maxRecDepth 100000
set_option maxHeartbeats 2000000
attribute [local irreducible] OQ OW AL AW AD AF SW

abbrev nmV (n : Nm) : Value := .agg #[.int .i64 n.xx, .int .i64 n.xy, .int .i64 n.xz, .int .i64 n.xy, .int .i64 n.yy, .int .i64 n.yz, .int .i64 n.xz, .int .i64 n.yz, .int .i64 n.zz, .int .i64 n.p, .int .i64 n.q, .int .i64 n.r]
theorem ent_get (n : Nm) (i j : Int) (hi : 0 ≤ i ∧ i < 3) (hj : 0 ≤ j ∧ j < 3) : ([Value.int .i64 n.xx, .int .i64 n.xy, .int .i64 n.xz, .int .i64 n.xy, .int .i64 n.yy, .int .i64 n.yz, .int .i64 n.xz, .int .i64 n.yz, .int .i64 n.zz, .int .i64 n.p, .int .i64 n.q, .int .i64 n.r] : List Value)[i.toNat * 3 + j.toNat]? = some (.int .i64 (entF n i j)) := by
  obtain rfl | rfl | rfl : i = 0 ∨ i = 1 ∨ i = 2 := by omega
  all_goals obtain rfl | rfl | rfl : j = 0 ∨ j = 1 ∨ j = 2 := by omega
  all_goals rfl
theorem tm3 (a : Int) (h : 0 ≤ a) : 0 ≤ a.tmod 3 ∧ a.tmod 3 < 3 := by
  rw [Int.tmod_eq_emod_of_nonneg h]
  omega

theorem cofAt_c (n : Nm) (a b i k : Int) (ha : 0 ≤ a ∧ a ≤ 2) (hb : 0 ≤ b ∧ b ≤ 2) (hi : 0 ≤ i ∧ i ≤ 2) (hk : 0 ≤ k ∧ k ≤ 2) (e0 e1 e2 : Nat) :
    PCalls Tryz.prog 72 [.int .i64 i, .int .i64 k, .pointer (some ⟨0, 0, none⟩), .pointer (some ⟨1, 0, none⟩), .pointer (some ⟨2, 0, none⟩)]
      [some ⟨[Value.int .i64 n.xx, .int .i64 n.xy, .int .i64 n.xz, .int .i64 n.xy, .int .i64 n.yy, .int .i64 n.yz, .int .i64 n.xz, .int .i64 n.yz, .int .i64 n.zz, .int .i64 n.p, .int .i64 n.q, .int .i64 n.r], false, e0⟩, some ⟨[.int .i64 a], false, e1⟩, some ⟨[.int .i64 b], false, e2⟩] (.int .i64 (entF n ((a + i).tmod 3) ((b + k).tmod 3))) := by
  have h1 := tm3 (a + i) (by omega)
  have h2 := tm3 (b + k) (by omega)
  have hg := ent_get n _ _ h1 h2
  refine PCalls.enter (t := [.int .i64 i, .int .i64 k, .pointer (some ⟨0, 0, none⟩), .pointer (some ⟨1, 0, none⟩), .pointer (some ⟨2, 0, none⟩), undef, undef, undef, undef, undef, undef, undef, undef, undef, undef, undef, undef, undef, undef, undef]) Tryz.func72 rfl (ro3 _ _ _ rfl rfl rfl) rfl fun E => ?_
  repeat' (first
    | with_reducible refine Then.n ?_
    | with_reducible refine Then.r ?_
    | with_reducible refine Then.x ?_
    | with_reducible refine InB.n ?_
    | with_reducible refine InB.r ?_
    | with_reducible refine InB.hit ?_
    | with_reducible refine InB.miss (by decide) ?_
    | ((with_reducible refine AL.on ?_); first
      | ((first | first | (refine AL.q rfl (OQ.assign (by conv => lhs; whnf)) ?_)); (conv => (arg 5; try tactic => exact nrm)))
      | refine AL.nil ?_)
    | ((with_reducible refine AW.on ?_); first
      | refine AW.seq ?_
      | refine AW.skip ?_
      | refine AW.exit ?_
      | refine AW.ret ?_
      | refine AW.block ?_
      | (refine AW.draw (id := 1) 13 #[0, 0, 3, 7, 0, 0, 48, 112, 0, 271, 1023, 2047, 4095] (by kernel_rfl) (by kernel_rfl) ?_; (conv => (arg 8; simp only [List.take_succ_cons, List.take_zero])))
      | refine AW.region ?_
      | (refine AW.conds rfl (fun hc => ?_) (fun hc => ?_) <;> (try simp only [decide_eq_true_eq, decide_eq_false_iff_not, Bool.not_true, Bool.not_false, Bool.not_eq_true', Bool.not_eq_false', Int.not_lt, Int.not_le, Classical.not_not, ne_eq] at hc) <;> first | (exfalso; first | contradiction | (omega); done) | skip))
    | ((with_reducible refine AD.on ?_); first
      | ((first | ((with_reducible refine AD.k_binOp ?_); first | refine AD.q rfl (OQ.addi rfl rfl (by omega)) rfl rfl rfl ?_ | refine AD.q rfl (OQ.add rfl rfl) rfl rfl rfl ?_ | refine AD.q rfl (OQ.rem rfl rfl (by omega)) rfl rfl rfl ?_) | ((with_reducible refine AD.k_load ?_); first | (refine AD.q rfl (OQ.load1 (ty := 3) rfl (by kernel_rfl) (by first | (exact hg) | (conv => lhs; whnf))) rfl rfl rfl ?_)) | ((with_reducible refine AD.k_move ?_); first | (refine AD.q rfl (OQ.move (by conv => lhs; whnf)) rfl rfl rfl ?_)) | ((with_reducible refine AD.k_assign ?_); first | (refine AD.q rfl (OQ.assign (by conv => lhs; whnf)) rfl rfl rfl ?_))); (conv => (arg 10; try tactic => exact nrm)))
      | ((first | ((with_reducible refine AD.k_indexAddr ?_); first | refine AD.q rfl (OQ.idxPtr (ty := 87) (n := 3) (l := 3) (g := true) rfl rfl (by kernel_rfl) (by omega) (by omega)) rfl rfl rfl ?_ | refine AD.q rfl (OQ.idxPtr (ty := 86) (n := 1) (l := 3) (g := false) rfl rfl (by kernel_rfl) (by omega) (by omega)) rfl rfl rfl ?_) | ((with_reducible refine AD.k_fieldAddr ?_); first | refine AD.q rfl (OQ.fieldA (ty := 89) (i := 0) (n := 9) (off := 0) (g := true) rfl (by kernel_rfl) (by decide)) rfl rfl rfl ?_)); (conv => (arg 10; try tactic => exact nrm)))
      | (refine AD.nil ?_; (conv => (arg 4; simp only [List.drop_succ_cons, List.drop_zero, List.drop_nil])); (conv => (arg 5; try tactic => exact nrm)); (conv => (arg 6; try tactic => exact nrm))))
    | ((with_reducible refine FinP.on ?_); (first | refine FinP.ret (.tmp (by conv => lhs; whnf) .nil) ?_ rfl | refine FinP.end (.tmp (by conv => lhs; whnf) .nil) ?_ rfl); (try simp only [pack, List.drop, List.take]); all_goals (rfl)))

theorem ro3f (b c d : Blk) (h : b.own = false) (h' : c.own = false) (h'' : d.own = false) : ∀ k blk, Mem.at [some b, some c, some d] k = some blk → blk.own = false := ro3 b c d h h' h''
theorem cofAt_q {m : Mem} {x y z : Nat} {o0 o1 o2 : Bool} {e0 e1 e2 : Nat} (n : Nm) (a b i k : Int) (ha : 0 ≤ a ∧ a ≤ 2) (hb : 0 ≤ b ∧ b ≤ 2) (hi : 0 ≤ i ∧ i ≤ 2) (hk : 0 ≤ k ∧ k ≤ 2)
    (h0 : m.at x = some ⟨[Value.int .i64 n.xx, .int .i64 n.xy, .int .i64 n.xz, .int .i64 n.xy, .int .i64 n.yy, .int .i64 n.yz, .int .i64 n.xz, .int .i64 n.yz, .int .i64 n.zz, .int .i64 n.p, .int .i64 n.q, .int .i64 n.r], o0, e0⟩) (h1 : m.at y = some ⟨[.int .i64 a], o1, e1⟩) (h2 : m.at z = some ⟨[.int .i64 b], o2, e2⟩) :
    PCalls Tryz.prog 72 [.int .i64 i, .int .i64 k, .pointer (some ⟨x, 0, none⟩), .pointer (some ⟨y, 0, none⟩), .pointer (some ⟨z, 0, none⟩)] m (.int .i64 (entF n ((a + i).tmod 3) ((b + k).tmod 3))) :=
  PCalls.viaS [x, y, z] (cofAt_c n a b i k ha hb hi hk e0 e1 e2) (ro3f _ _ _ rfl rfl rfl) ⟨⟨_, h0, rfl, (fun h => nomatch h), .inl ⟨rfl, rfl⟩⟩, ⟨_, h1, rfl, (fun h => nomatch h), .inl ⟨rfl, rfl⟩⟩, ⟨_, h2, rfl, (fun h => nomatch h), .inl ⟨rfl, rfl⟩⟩, trivial⟩ rfl rfl rfl rfl
theorem cof_q (n : Nm) (hN : NB n) (a b : Int) (ha : 0 ≤ a ∧ a ≤ 2) (hb : 0 ≤ b ∧ b ≤ 2) (m : Mem) : PCalls Tryz.prog 57 [nmV n, .int .i64 a, .int .i64 b] m (.int .i64 (cofF n a b)) := by
  have h1 := mulc 14745600000000 (hN.ent ((a + 1).tmod 3) ((b + 1).tmod 3)) (hN.ent ((a + 2).tmod 3) ((b + 2).tmod 3)) (by decide)
  have h2 := mulc 14745600000000 (hN.ent ((a + 1).tmod 3) ((b + 2).tmod 3)) (hN.ent ((a + 2).tmod 3) ((b + 1).tmod 3)) (by decide)
  have HC := @cofAt_q
  unfold cofF
  refine PCalls.any ?_ rfl rfl m
  refine PCalls.enter (t := [nmV n, .int .i64 a, .int .i64 b, undef, undef, undef, undef, undef, undef, undef, undef, undef, undef, undef, undef, undef, undef, undef, undef, undef]) Tryz.func57 rfl (ro_nil) rfl fun E => ?_
  repeat' (first
    | with_reducible refine Then.n ?_
    | with_reducible refine Then.r ?_
    | with_reducible refine Then.x ?_
    | with_reducible refine InB.n ?_
    | with_reducible refine InB.r ?_
    | with_reducible refine InB.hit ?_
    | with_reducible refine InB.miss (by decide) ?_
    | ((with_reducible refine AL.on ?_); first
      | ((first | ((with_reducible refine AL.k_move ?_); first | (refine AL.q rfl (OQ.move (by conv => lhs; whnf)) ?_)) | ((with_reducible refine AL.k_assign ?_); first | (refine AL.q rfl (OQ.assign (by conv => lhs; whnf)) ?_)) | ((with_reducible refine AL.k_binOp ?_); first | refine AL.q rfl (OQ.muli rfl rfl (by omega)) ?_ | refine AL.q rfl (OQ.mul rfl rfl) ?_ | refine AL.q rfl (OQ.subi rfl rfl (by omega)) ?_ | refine AL.q rfl (OQ.sub rfl rfl) ?_)); (conv => (arg 5; try tactic => exact nrm)))
      | ((first | ((with_reducible refine AL.k_call ?_); first | refine AL.pcall rfl (by first | assumption | kernel_rfl) rfl (HC n a b _ _ ha hb (by decide) (by decide) rfl rfl rfl) ?_) | refine AL.q rfl OQ.mkfn ?_); (conv => (arg 5; try tactic => exact nrm)))
      | ((first | first | (refine AL.w rfl (OW.box (by conv => lhs; whnf) (by intro r h; cases h)) ?_)); (conv => (arg 5; try tactic => exact nrm)); (conv => (arg 6; try tactic => exact nrm)))
      | refine AL.nil ?_)
    | ((with_reducible refine AW.on ?_); first
      | refine AW.seq ?_
      | refine AW.skip ?_
      | refine AW.exit ?_
      | refine AW.ret ?_
      | refine AW.block ?_
      | refine AW.region ?_
      | (refine AW.conds rfl (fun hc => ?_) (fun hc => ?_) <;> (try simp only [decide_eq_true_eq, decide_eq_false_iff_not, Bool.not_true, Bool.not_false, Bool.not_eq_true', Bool.not_eq_false', Int.not_lt, Int.not_le, Classical.not_not, ne_eq] at hc) <;> first | (exfalso; first | contradiction | (omega); done) | skip))
    | ((with_reducible refine FinP.on ?_); (first | refine FinP.ret (.tmp (by conv => lhs; whnf) .nil) ?_ rfl | refine FinP.end (.tmp (by conv => lhs; whnf) .nil) ?_ rfl); (try simp only [pack, List.drop, List.take]); all_goals (rfl)))
theorem det_q (n : Nm) (hN : NB n) (m : Mem) : PCalls Tryz.prog 34 [nmV n] m (.int .i64 n.det) := by
  have h1 := mulc 200000000000000 hN.xx hN.c00 (by decide)
  have h2 := mulc 200000000000000 hN.xy hN.c01 (by decide)
  have h3 := mulc 200000000000000 hN.xz hN.c02 (by decide)
  have HC := fun b hb => cof_q n hN 0 b (by decide) hb
  have hd := det_cof n
  refine PCalls.any ?_ rfl rfl m
  refine PCalls.enter (t := [nmV n, undef, undef, undef, undef, undef, undef, undef, undef, undef, undef, undef, undef, undef, undef, undef, undef, undef, undef, undef, undef]) Tryz.func34 rfl (ro_nil) rfl fun E => ?_
  repeat' (first
    | with_reducible refine Then.n ?_
    | with_reducible refine Then.r ?_
    | with_reducible refine Then.x ?_
    | with_reducible refine InB.n ?_
    | with_reducible refine InB.r ?_
    | with_reducible refine InB.hit ?_
    | with_reducible refine InB.miss (by decide) ?_
    | ((with_reducible refine AL.on ?_); first
      | ((first | ((with_reducible refine AL.k_move ?_); first | (refine AL.q rfl (OQ.move (by conv => lhs; whnf)) ?_)) | ((with_reducible refine AL.k_assign ?_); first | (refine AL.q rfl (OQ.assign (by conv => lhs; whnf)) ?_)) | ((with_reducible refine AL.k_binOp ?_); first | refine AL.q rfl (OQ.lss rfl rfl) ?_ | refine AL.q rfl (OQ.addi rfl rfl (by omega)) ?_ | refine AL.q rfl (OQ.add rfl rfl) ?_)); (conv => (arg 5; try tactic => exact nrm)))
      | ((first | first | (refine AL.w rfl (OW.box (by conv => lhs; whnf) (by intro r h; cases h)) ?_)); (conv => (arg 5; try tactic => exact nrm)); (conv => (arg 6; try tactic => exact nrm)))
      | refine AL.nil ?_)
    | ((with_reducible refine AW.on ?_); first
      | refine AW.seq ?_
      | refine AW.skip ?_
      | refine AW.exit ?_
      | refine AW.ret ?_
      | (refine AW.block (id := 0) ?_; refine AW.unroll 4 ?_)
      | refine AW.block ?_
      | (refine AW.draw (id := 5) 12 #[0, 0, 0, 4, 14, 30, 0, 0, 192, 510, 1023, 2047] (by kernel_rfl) (by kernel_rfl) ?_; (conv => (arg 8; simp only [List.take_succ_cons, List.take_zero])))
      | refine AW.region ?_
      | (refine AW.conds rfl (fun hc => ?_) (fun hc => ?_) <;> (try simp only [decide_eq_true_eq, decide_eq_false_iff_not, Bool.not_true, Bool.not_false, Bool.not_eq_true', Bool.not_eq_false', Int.not_lt, Int.not_le, Classical.not_not, ne_eq] at hc) <;> first | (exfalso; first | contradiction | (omega); done) | skip))
    | ((with_reducible refine AD.on ?_); first
      | ((first | ((with_reducible refine AD.k_move ?_); first | (refine AD.q rfl (OQ.move (by conv => lhs; whnf)) rfl rfl rfl ?_)) | ((with_reducible refine AD.k_assign ?_); first | (refine AD.q rfl (OQ.assign (by conv => lhs; whnf)) rfl rfl rfl ?_)) | ((with_reducible refine AD.k_binOp ?_); first | refine AD.q rfl (OQ.muli rfl rfl (by omega)) rfl rfl rfl ?_ | refine AD.q rfl (OQ.mul rfl rfl) rfl rfl rfl ?_ | refine AD.q rfl (OQ.addi rfl rfl (by omega)) rfl rfl rfl ?_ | refine AD.q rfl (OQ.add rfl rfl) rfl rfl rfl ?_) | ((with_reducible refine AD.k_indexAddr ?_); first | refine AD.q rfl (OQ.idxPtr (ty := 87) (n := 3) (l := 3) (g := true) rfl rfl (by kernel_rfl) (by omega) (by omega)) rfl rfl rfl ?_ | refine AD.q rfl (OQ.idxPtr (ty := 86) (n := 1) (l := 3) (g := false) rfl rfl (by kernel_rfl) (by omega) (by omega)) rfl rfl rfl ?_) | ((with_reducible refine AD.k_load ?_); first | (refine AD.q rfl (OQ.load1 (ty := 3) rfl (by kernel_rfl) (by conv => lhs; whnf)) rfl rfl rfl ?_) | refine AD.q rfl (OQ.loadN (ty := 89) (n := 12) rfl (by kernel_rfl) (by kernel_rfl) rfl) rfl rfl rfl ?_) | ((with_reducible refine AD.k_fieldAddr ?_); first | refine AD.q rfl (OQ.fieldA (ty := 89) (i := 0) (n := 9) (off := 0) (g := true) rfl (by kernel_rfl) (by decide)) rfl rfl rfl ?_)); (conv => (arg 10; try tactic => exact nrm)))
      | ((first | first | refine AD.pcall (g := 57) rfl (by kernel_rfl) rfl (HC _ (by decide) _) rfl rfl ?_); (conv => (arg 10; try tactic => exact nrm)))
      | (refine AD.nil ?_; (conv => (arg 4; simp only [List.drop_succ_cons, List.drop_zero, List.drop_nil])); (conv => (arg 5; try tactic => exact nrm)); (conv => (arg 6; try tactic => exact nrm))))
    | with_reducible refine AR.s ?_
    | ((with_reducible refine AR.out ?_); omega; done)
    | ((with_reducible refine FinP.on ?_); (first | refine FinP.ret (.tmp (by conv => lhs; whnf) .nil) ?_ rfl | refine FinP.end (.tmp (by conv => lhs; whnf) .nil) ?_ rfl); (try simp only [pack, List.drop, List.take]); all_goals (congr 1; omega)))
theorem fit_q (n : Nm) (hN : NB n) (m : Mem) : PCalls Tryz.prog 32 [nmV n] m (.agg #[.int .i64 (fitF n 0), .int .i64 (fitF n 1), .int .i64 (fitF n 2)]) := by
  have h1 := mulc 10000000000000000 hN.c00 hN.p (by decide)
  have h2 := mulc 10000000000000000 hN.c10 hN.q (by decide)
  have h3 := mulc 10000000000000000 hN.c20 hN.r (by decide)
  have h4 := mulc 20000000000000000 hN.c01 hN.p (by decide)
  have h5 := mulc 20000000000000000 hN.c11 hN.q (by decide)
  have h6 := mulc 20000000000000000 hN.c21 hN.r (by decide)
  have h7 := mulc 2900000000000000000 hN.c02 hN.p (by decide)
  have h8 := mulc 2900000000000000000 hN.c12 hN.q (by decide)
  have h9 := mulc 2900000000000000000 hN.c22 hN.r (by decide)
  have HC := fun a b ha hb => cof_q n hN a b ha hb
  have e : ∀ p, fitF n p = 0 + cofF n 0 p * n.p + cofF n 1 p * n.q + cofF n 2 p * n.r := fun p => by unfold fitF; omega
  rw [e 0, e 1, e 2]
  refine PCalls.any ?_ rfl rfl m
  refine PCalls.enter (t := [nmV n, undef, undef, undef, undef, undef, undef, undef, undef, undef, undef, undef, undef, undef, undef, undef, undef, undef, undef, undef, undef, undef, undef, undef, undef, undef, undef, undef, undef]) Tryz.func32 rfl (ro_nil) rfl fun E => ?_
  repeat' (first
    | with_reducible refine Then.n ?_
    | with_reducible refine Then.r ?_
    | with_reducible refine Then.x ?_
    | with_reducible refine InB.n ?_
    | with_reducible refine InB.r ?_
    | with_reducible refine InB.hit ?_
    | with_reducible refine InB.miss (by decide) ?_
    | ((with_reducible refine AL.on ?_); first
      | ((first | ((with_reducible refine AL.k_move ?_); first | (refine AL.q rfl (OQ.move (by conv => lhs; whnf)) ?_)) | ((with_reducible refine AL.k_binOp ?_); first | refine AL.q rfl (OQ.lss rfl rfl) ?_ | refine AL.q rfl (OQ.addi rfl rfl (by omega)) ?_ | refine AL.q rfl (OQ.add rfl rfl) ?_) | ((with_reducible refine AL.k_load ?_); first | refine AL.q rfl (OQ.loadN (ty := 86) (n := 3) rfl (by kernel_rfl) (by kernel_rfl) rfl) ?_) | ((with_reducible refine AL.k_assign ?_); first | (refine AL.q rfl (OQ.assign (by conv => lhs; whnf)) ?_))); (conv => (arg 5; try tactic => exact nrm)))
      | ((first | ((with_reducible refine AL.k_alloc ?_); first | refine AL.w rfl (OW.alloc (ty := 86) (z := [.int .i64 0, .int .i64 0, .int .i64 0]) (by kernel_rfl) rfl) ?_) | ((with_reducible refine AL.k_store ?_); first | (refine AL.w rfl (OW.store (ty := 3) (n := 1) rfl (by conv => lhs; whnf) rfl rfl (by kernel_rfl) rfl rfl (by decide) rfl (Nat.le_of_ble_eq_true rfl) (by intro r h; cases h)) ?_) | (refine AL.w rfl (OW.store (ty := 86) (n := 3) rfl (by conv => lhs; whnf) rfl rfl (by kernel_rfl) rfl rfl (by decide) rfl (Nat.le_of_ble_eq_true rfl) (by intro r h; cases h)) ?_)) | ((with_reducible refine AL.k_box ?_); first | (refine AL.w rfl (OW.box (by conv => lhs; whnf) (by intro r h; cases h)) ?_))); (conv => (arg 5; try tactic => exact nrm)); (conv => (arg 6; try tactic => exact nrm)))
      | refine AL.nil ?_)
    | ((with_reducible refine AW.on ?_); first
      | refine AW.seq ?_
      | refine AW.skip ?_
      | refine AW.exit ?_
      | refine AW.ret ?_
      | (refine AW.block (id := 0) ?_; refine AW.unroll 4 ?_)
      | (refine AW.block (id := 2) ?_; refine AW.unroll 4 ?_)
      | refine AW.block ?_
      | (refine AW.draw (id := 8) 14 #[0, 1, 3, 0, 0, 0, 56, 0, 0, 384, 896, 2040, 4095, 8191, 16383] (by kernel_rfl) (by kernel_rfl) ?_; (conv => (arg 8; simp only [List.take_succ_cons, List.take_zero])))
      | refine AW.region ?_
      | (refine AW.conds rfl (fun hc => ?_) (fun hc => ?_) <;> (try simp only [decide_eq_true_eq, decide_eq_false_iff_not, Bool.not_true, Bool.not_false, Bool.not_eq_true', Bool.not_eq_false', Int.not_lt, Int.not_le, Classical.not_not, ne_eq] at hc) <;> first | (exfalso; first | contradiction | (omega); done) | skip))
    | ((with_reducible refine AD.on ?_); first
      | ((first | ((with_reducible refine AD.k_move ?_); first | (refine AD.q rfl (OQ.move (by conv => lhs; whnf)) rfl rfl rfl ?_)) | ((with_reducible refine AD.k_binOp ?_); first | refine AD.q rfl (OQ.muli rfl rfl (by omega)) rfl rfl rfl ?_ | refine AD.q rfl (OQ.mul rfl rfl) rfl rfl rfl ?_ | refine AD.q rfl (OQ.addi rfl rfl (by omega)) rfl rfl rfl ?_ | refine AD.q rfl (OQ.add rfl rfl) rfl rfl rfl ?_) | ((with_reducible refine AD.k_load ?_); first | (refine AD.q rfl (OQ.load1 (ty := 3) rfl (by kernel_rfl) (by conv => lhs; whnf)) rfl rfl rfl ?_) | refine AD.q rfl (OQ.loadN (ty := 89) (n := 12) rfl (by kernel_rfl) (by kernel_rfl) rfl) rfl rfl rfl ?_) | ((with_reducible refine AD.k_indexAddr ?_); first | refine AD.q rfl (OQ.idxPtr (ty := 86) (n := 1) (l := 3) (g := false) rfl rfl (by kernel_rfl) (by omega) (by omega)) rfl rfl rfl ?_) | ((with_reducible refine AD.k_fieldAddr ?_); first | refine AD.q rfl (OQ.fieldA (ty := 89) (i := 1) (n := 3) (off := 9) (g := true) rfl (by kernel_rfl) (by decide)) rfl rfl rfl ?_)); (conv => (arg 10; try tactic => exact nrm)))
      | ((first | first | refine AD.pcall (g := 57) rfl (by kernel_rfl) rfl (HC _ _ (by decide) (by decide) _) rfl rfl ?_); (conv => (arg 10; try tactic => exact nrm)))
      | (refine AD.nil ?_; (conv => (arg 4; simp only [List.drop_succ_cons, List.drop_zero, List.drop_nil])); (conv => (arg 5; try tactic => exact nrm)); (conv => (arg 6; try tactic => exact nrm))))
    | with_reducible refine AR.s ?_
    | ((with_reducible refine AR.out ?_); omega; done)
    | ((with_reducible refine FinP.on ?_); (first | refine FinP.ret (.cellN (n := 3) (by conv => lhs; whnf) (by kernel_rfl) (by kernel_rfl) rfl .nil) ?_ rfl | refine FinP.end (.cellN (n := 3) (by conv => lhs; whnf) (by kernel_rfl) (by kernel_rfl) rfl .nil) ?_ rfl); (try simp only [pack, List.drop, List.take]); all_goals (rfl)))
end Go.Proofs.YtmghmmmfdbafoaaGreatDoor
