/- Chapter 8: the normal equations of observations. -/
import Derived.Test.YtmghmmmfdbafoaaGreatDoor08i
set_option linter.unusedSimpArgs false
set_option linter.unusedVariables false
namespace Go.Proofs.YtmghmmmfdbafoaaGreatDoor
open Go Go.RowKit Go.Ab Go.Sr
set_option maxRecDepth 100000
set_option maxHeartbeats 2000000
attribute [local irreducible] OQ OW AL AW AD AF SW

theorem flatW_ld {m : Mem} {b : Nat} {blk : Blk} {R : List Rw} (hb : m.at b = some blk) (hc : blk.cells = flatV (R.map Rw.w)) (k : Nat) (hk : k < R.length) : m.ld b (k * 3) 3 = some [.int .i64 (rw_ R k).x, .int .i64 (rw_ R k).y, .int .i64 (rw_ R k).z] := by
  have := flatV_ld hb hc k (by simpa using hk)
  rw [this]
  have e : gv (R.map Rw.w) k = (rw_ R k).w := by
    unfold gv rw_
    rw [List.getD_eq_getElem?_getD, List.getD_eq_getElem?_getD, List.getElem?_map, List.getElem?_eq_getElem hk]
    rfl
  rw [e]
  rfl
theorem flatP_get {R : List Rw} (k : Nat) (hk : k < R.length) : (flatI (R.map Rw.v))[k]? = some (.int .i64 (rw_ R k).v) := by
  have := flatI_get (R.map Rw.v) k (by simpa using hk)
  rw [Nat.mul_one] at this
  rw [this]
  unfold rw_
  rw [List.getD_eq_getElem?_getD, List.getD_eq_getElem?_getD, List.getElem?_map, List.getElem?_eq_getElem hk]
  rfl

theorem normal_a (R : List Rw) (hB : RB 400 200 R) (hl : R.length ≤ 24) (e0 e1 : Nat) : ACalls Tryz.prog 60 [.agg #[.slice (some ⟨0, 0, none⟩) R.length INF, .slice (some ⟨1, 0, none⟩) R.length INF]] [some ⟨flatV (R.map Rw.w), false, e0⟩, some ⟨flatI (R.map Rw.v), false, e1⟩]
    (nmV (nm R)) [some ⟨flatV (R.map Rw.w), false, e0⟩, some ⟨flatI (R.map Rw.v), false, e1⟩] := by
  have hld := fun (m : Mem) (k : Nat) (hk : k < R.length) => flatW_ld (m := some ⟨flatV (R.map Rw.w), false, e0⟩ :: m) (b := 0) (R := R) rfl rfl k hk
  have hlv := fun (k : Nat) (hk : k < R.length) => flatP_get (R := R) k hk
  have hN : ∀ k, NB (nm (R.take k)) := fun k => NB.of (hB.take k) (by simp; omega)
  have hr : ∀ k, k < R.length → _ := fun k hk => hB.at k hk
  have ht := nm_take R
  refine ACalls.enter (t := [.agg #[.slice (some ⟨0, 0, none⟩) (R.length) INF, .slice (some ⟨1, 0, none⟩) (R.length) INF], undef, undef, undef, undef, undef, undef, undef, undef, undef, undef, undef, undef, undef, undef, undef, undef, undef, undef, undef, undef, undef, undef, undef, undef, undef, undef, undef, undef, undef, undef, undef, undef, undef, undef, undef, undef, undef, undef, undef, undef, undef, undef, undef, undef, undef, undef, undef, undef, undef, undef, undef, undef, undef, undef, undef, undef, undef, undef]) Tryz.func60 rfl rfl fun E hE => ?_
  repeat' (first
    | with_reducible refine Then.n ?_
    | with_reducible refine Then.r ?_
    | with_reducible refine Then.x ?_
    | with_reducible refine InB.n ?_
    | with_reducible refine InB.r ?_
    | with_reducible refine InB.hit ?_
    | with_reducible refine InB.miss (by decide) ?_
    | ((with_reducible refine AL.on ?_); first
      | ((first | ((with_reducible refine AL.k_move ?_); first | (refine AL.q rfl (OQ.move (by conv => lhs; whnf)) ?_)) | ((with_reducible refine AL.k_load ?_); first | (refine AL.q rfl (OQ.load1 (ty := 82) rfl (by kernel_rfl) (by first | (first | exact hld _ _ (by omega) | exact hlv _ (by omega)) | (conv => lhs; whnf))) ?_) | refine AL.q rfl (OQ.loadN (ty := 86) (n := 3) rfl (by kernel_rfl) (by kernel_rfl) (by first | (first | exact hld _ _ (by omega) | exact hlv _ (by omega)) | rfl)) ?_ | refine AL.q rfl (OQ.loadN (ty := 89) (n := 12) rfl (by kernel_rfl) (by kernel_rfl) (by first | (first | exact hld _ _ (by omega) | exact hlv _ (by omega)) | rfl)) ?_) | ((with_reducible refine AL.k_binOp ?_); first | refine AL.q rfl (OQ.lss rfl rfl) ?_ | refine AL.q rfl (OQ.addi rfl rfl (by omega)) ?_ | refine AL.q rfl (OQ.add rfl rfl) ?_) | ((with_reducible refine AL.k_assign ?_); first | (refine AL.q rfl (OQ.assign (by conv => lhs; whnf)) ?_)) | ((with_reducible refine AL.k_call ?_); first | refine AL.q rfl (OQ.lenS (xt := 82) (r := (none, 3, true)) rfl (by kernel_rfl)) ?_)); (conv => (arg 5; try tactic => exact nrm)))
      | ((first | ((with_reducible refine AL.k_indexAddr ?_); first | refine AL.q rfl (OQ.idxAddr (ty := 82) (z := 3) (g := true) rfl rfl (by kernel_rfl) (by omega) (by omega)) ?_) | ((with_reducible refine AL.k_fieldAddr ?_); first | refine AL.q rfl (OQ.fieldA (ty := 85) (i := 0) (n := 1) (off := 0) (g := false) rfl (by kernel_rfl) (by decide)) ?_)); (conv => (arg 5; try tactic => exact nrm)))
      | ((first | ((with_reducible refine AL.k_store ?_); first | (refine AL.w rfl (OW.store (ty := 86) (n := 3) rfl (by conv => lhs; whnf) rfl rfl (by kernel_rfl) rfl rfl (by decide) rfl (Nat.le_of_ble_eq_true rfl) (by intro r h; cases h)) ?_) | (refine AL.w rfl (OW.store (ty := 3) (n := 1) rfl (by conv => lhs; whnf) rfl rfl (by kernel_rfl) rfl rfl (by decide) rfl (Nat.le_of_ble_eq_true rfl) (by intro r h; cases h)) ?_) | (refine AL.w rfl (OW.store (ty := 89) (n := 12) rfl (by conv => lhs; whnf) rfl rfl (by kernel_rfl) rfl rfl (by decide) rfl (Nat.le_of_ble_eq_true rfl) (by intro r h; cases h)) ?_)) | ((with_reducible refine AL.k_alloc ?_); first | refine AL.w rfl (OW.alloc (ty := 89) (z := [.int .i64 0, .int .i64 0, .int .i64 0, .int .i64 0, .int .i64 0, .int .i64 0, .int .i64 0, .int .i64 0, .int .i64 0, .int .i64 0, .int .i64 0, .int .i64 0]) (by kernel_rfl) rfl) ?_ | refine AL.w rfl (OW.alloc (ty := 86) (z := [.int .i64 0, .int .i64 0, .int .i64 0]) (by kernel_rfl) rfl) ?_) | ((with_reducible refine AL.k_box ?_); first | (refine AL.w rfl (OW.box (by conv => lhs; whnf) (by intro r h; cases h)) ?_))); (conv => (arg 5; try tactic => exact nrm)); (conv => (arg 6; try tactic => exact nrm)))
      | refine AL.nil ?_)
    | ((with_reducible refine AW.on ?_); first
      | refine AW.seq ?_
      | refine AW.skip ?_
      | refine AW.exit ?_
      | refine AW.ret ?_
      | ((refine AW.block (id := 0) ?_); (refine AW.wk (Wk.forget [false, true, true, true, false, false, false, false, false, true, true, true, false, false, false, false, false, false, false, false, false, false, false, false, false, false, false, false, false, false, false, false, false, false, false, false, false, false, false, false, false, false, false, false, false, false, false, false, false, false, false, false, false, false, false, false, false, false, false] rfl) ?_); (conv => (arg 4; simp only [fgt, if_true, if_false, Bool.false_eq_true])); (refine AW.loop (fun n t' m => ∃ (k : Nat) (N : Nm), n = R.length - k ∧ k ≤ R.length ∧ N = nm (R.take k) ∧ t' = [junk, .pointer (some ⟨2, 0, none⟩), .pointer (some ⟨3, 0, none⟩), .pointer (some ⟨4, 0, none⟩), junk, junk, junk, junk, junk, .slice (some ⟨0, 0, none⟩) (R.length) INF, .int .i64 (R.length), .int .i64 (k), junk, junk, junk, junk, junk, junk, junk, junk, junk, junk, junk, junk, junk, junk, junk, junk, junk, junk, junk, junk, junk, junk, junk, junk, junk, junk, junk, junk, junk, junk, junk, junk, junk, junk, junk, junk, junk, junk, junk, junk, junk, junk, junk, junk, junk, junk, junk] ∧ m = [some ⟨flatV (R.map Rw.w), false, e0⟩, some ⟨flatI (R.map Rw.v), false, e1⟩, some ⟨[.slice (some ⟨0, 0, none⟩) (R.length) INF, .slice (some ⟨1, 0, none⟩) (R.length) INF], true, 0⟩, some ⟨[.int .i64 (0), .int .i64 (0), .int .i64 (0), .int .i64 (0), .int .i64 (0), .int .i64 (0), .int .i64 (0), .int .i64 (0), .int .i64 (0), .int .i64 (0), .int .i64 (0), .int .i64 (0)], true, 0⟩, some ⟨[.int .i64 (N.xx), .int .i64 (N.xy), .int .i64 (N.xz), .int .i64 (N.xy), .int .i64 (N.yy), .int .i64 (N.yz), .int .i64 (N.xz), .int .i64 (N.yz), .int .i64 (N.zz), .int .i64 (N.p), .int .i64 (N.q), .int .i64 (N.r)], true, 0⟩]) (R.length) (by exact ⟨0, nm [], rfl, Nat.zero_le _, rfl, rfl, rfl⟩) ?_); (rintro n t' m ⟨k, N, rfl, hk, hNk, rfl, rfl⟩))
      | (refine AW.block (id := 2) ?_; refine AW.unroll 4 ?_)
      | (refine AW.block (id := 4) ?_; refine AW.unroll 4 ?_)
      | refine AW.block ?_
      | (refine AW.draw (id := 11) 17 #[0, 0, 0, 5, 15, 31, 0, 64, 192, 0, 512, 1536, 4032, 8191, 0, 16385, 65535, 131071] (by kernel_rfl) (by kernel_rfl) ?_; (conv => (arg 8; simp only [List.take_succ_cons, List.take_zero])))
      | (refine AW.draw (id := 13) 16 #[0, 0, 3, 7, 0, 16, 48, 0, 128, 0, 896, 1920, 4080, 8191, 0, 32767, 65535] (by kernel_rfl) (by kernel_rfl) ?_; (conv => (arg 8; simp only [List.take_succ_cons, List.take_zero])))
      | (refine AW.region (id := 5) ?_; ((have hb := hN k; rw [← hNk] at hb; have hx := rw_prod (hr k (by omega)); obtain ⟨b1, b2, b3, b4, b5, b6, b7, b8, b9⟩ := hb; obtain ⟨p1, p2, p3, p4, p5, p6, p7, p8, p9, pa, pb, pc⟩ := hx)))
      | refine AW.region ?_
      | (refine AW.conds rfl (fun hc => ?_) (fun hc => ?_) <;> (try simp only [decide_eq_true_eq, decide_eq_false_iff_not, Bool.not_true, Bool.not_false, Bool.not_eq_true', Bool.not_eq_false', Int.not_lt, Int.not_le, Classical.not_not, ne_eq] at hc) <;> first | (exfalso; first | contradiction | (omega); done) | skip))
    | ((with_reducible refine AD.on ?_); first
      | ((first | ((with_reducible refine AD.k_move ?_); first | (refine AD.q rfl (OQ.move (by conv => lhs; whnf)) rfl rfl rfl ?_)) | ((with_reducible refine AD.k_load ?_); first | (refine AD.q rfl (OQ.load1 (ty := 3) rfl (by kernel_rfl) (by first | (first | exact hld _ _ (by omega) | exact hlv _ (by omega)) | (conv => lhs; whnf))) rfl rfl rfl ?_) | (refine AD.q rfl (OQ.load1 (ty := 83) rfl (by kernel_rfl) (by first | (first | exact hld _ _ (by omega) | exact hlv _ (by omega)) | (conv => lhs; whnf))) rfl rfl rfl ?_)) | ((with_reducible refine AD.k_binOp ?_); first | refine AD.q rfl (OQ.muli rfl rfl (by omega)) rfl rfl rfl ?_ | refine AD.q rfl (OQ.mul rfl rfl) rfl rfl rfl ?_ | refine AD.q rfl (OQ.addi rfl rfl (by omega)) rfl rfl rfl ?_ | refine AD.q rfl (OQ.add rfl rfl) rfl rfl rfl ?_)); (conv => (arg 10; try tactic => exact nrm)))
      | ((first | ((with_reducible refine AD.k_indexAddr ?_); first | refine AD.q rfl (OQ.idxPtr (ty := 87) (n := 3) (l := 3) (g := true) rfl rfl (by kernel_rfl) (by omega) (by omega)) rfl rfl rfl ?_ | refine AD.q rfl (OQ.idxPtr (ty := 86) (n := 1) (l := 3) (g := false) rfl rfl (by kernel_rfl) (by omega) (by omega)) rfl rfl rfl ?_ | refine AD.q rfl (OQ.idxAddr (ty := 83) (z := 1) (g := false) rfl rfl (by kernel_rfl) (by omega) (by omega)) rfl rfl rfl ?_) | ((with_reducible refine AD.k_fieldAddr ?_); first | refine AD.q rfl (OQ.fieldA (ty := 89) (i := 0) (n := 9) (off := 0) (g := true) rfl (by kernel_rfl) (by decide)) rfl rfl rfl ?_ | refine AD.q rfl (OQ.fieldA (ty := 89) (i := 1) (n := 3) (off := 9) (g := true) rfl (by kernel_rfl) (by decide)) rfl rfl rfl ?_ | refine AD.q rfl (OQ.fieldA (ty := 85) (i := 1) (n := 1) (off := 1) (g := false) rfl (by kernel_rfl) (by decide)) rfl rfl rfl ?_)); (conv => (arg 10; try tactic => exact nrm)))
      | (refine AD.nil ?_; (conv => (arg 4; simp only [List.drop_succ_cons, List.drop_zero, List.drop_nil])); (conv => (arg 5; try tactic => exact nrm)); (conv => (arg 6; try tactic => exact nrm))))
    | with_reducible refine AR.s ?_
    | ((with_reducible refine AR.out ?_); omega; done)
    | ((with_reducible refine ex_on ?_); (refine ⟨_, _, _, ?_, ?_, k + 1, _, rfl, (by omega), rfl, rfl, rfl⟩; omega; exact Wk.keep 5 [] (by rw [hE]; exact (by decide : 2 ≤ 5)) rfl rfl (by repeat (first | exact RenT.nil | refine RenT.junk ?_ | refine RenT.val (by first | rfl | with_reducible assumption | (simp only [rn3, rn2, rn1, kσ]; done)) (by first | rfl | assumption | (simp [ok3, ok2, ok1]; done)) ?_)) ⟨⟨_, rfl, rfl, rfl, .inl ⟨rfl, flatV_scal _⟩⟩, ⟨_, rfl, rfl, rfl, .inl ⟨rfl, flatI_scal _⟩⟩, ⟨_, rfl, rfl, rfl, .inr ⟨rfl, rfl⟩⟩, ⟨_, rfl, rfl, rfl, .inl ⟨rfl, rfl⟩⟩, ⟨_, rfl, rfl, rfl, .inl ⟨(by simp only [ht k (by omega), ← hNk, Int.mul_comm]), rfl⟩⟩, trivial⟩))
    | ((with_reducible refine FinA.on ?_); (obtain rfl : k = R.length := (by omega); refine FinA.keep 2 [] (.inl rfl) (.cellN (n := 12) (by conv => lhs; whnf) (by kernel_rfl) (by kernel_rfl) rfl .nil) ?_ rfl (Nat.le_of_eq hE) rfl rfl ⟨⟨_, rfl, rfl, rfl, .inl ⟨rfl, flatV_scal _⟩⟩, ⟨_, rfl, rfl, rfl, .inl ⟨rfl, flatI_scal _⟩⟩, trivial⟩; rw [List.take_length] at hNk; rw [hNk]; rfl)))
end Go.Proofs.YtmghmmmfdbafoaaGreatDoor
