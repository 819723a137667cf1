/- SeriesTracks: CheckSights, UpAndEast and UpAndEastBox return what the document specifies, or the errors; the movement of the middles lies in the box. -/
import Derived.Test.Ytnocdnhhlppahaa08G
set_option linter.unusedSimpArgs false
set_option linter.unusedVariables false
section
namespace Go.Proofs.Ytnocdnhhlppahaa
open Go Go.RowKit Go.Ab Go.Sr
set_option maxRecDepth 100000
set_option maxHeartbeats 4000000
attribute [local irreducible] OQ OW AL AW AD AF SW

theorem UpAndEast_e (u e a b u' e' a' b' c : Int) (h : siEE u e a b u' e' a' b' = c) (hc : c ≠ 0) (m : Mem) : PCalls Try.prog 29 [siV u e a b u' e' a' b'] m (.tuple #[z4, .int .i64 c]) := by
  refine PCalls.any ?_ rfl rfl m
  have H := tracks_e u e a b u' e' a' b' c h hc
  refine PCalls.enter (t := [siV u e a b u' e' a' b', undef, undef, undef, undef, undef, undef, undef, undef, undef, undef, undef, undef, undef, undef, undef, undef, undef, undef, undef, undef, undef, undef, undef, undef, undef, undef, undef, undef, undef, undef, undef, undef, undef, undef, undef, undef, undef, undef, undef, undef, undef, undef, undef, undef, undef, undef, undef, undef, undef, undef, undef, undef, undef, undef, undef, undef]) Try.func29 rfl (ro_nil) rfl fun E => ?_
  repeat' (first
    | with_reducible refine Then.n ?_
    | with_reducible refine Then.r ?_
    | with_reducible refine Then.x ?_
    | with_reducible refine InB.n ?_
    | with_reducible refine InB.r ?_
    | with_reducible refine InB.hit ?_
    | with_reducible refine InB.miss (by decide) ?_
    | ((with_reducible refine AL.on ?_); first
      | ((first | ((with_reducible refine AL.k_fieldAddr ?_); first | refine AL.q rfl (OQ.fieldA (ty := 48) (i := 0) (n := 4) (off := 0) (g := true) rfl (by kernel_rfl) (by decide)) ?_ | refine AL.q rfl (OQ.fieldA (ty := 46) (i := 2) (n := 2) (off := 2) (g := true) rfl (by kernel_rfl) (by decide)) ?_ | refine AL.q rfl (OQ.fieldA (ty := 44) (i := 0) (n := 1) (off := 0) (g := false) rfl (by kernel_rfl) (by decide)) ?_ | refine AL.q rfl (OQ.fieldA (ty := 44) (i := 1) (n := 1) (off := 1) (g := false) rfl (by kernel_rfl) (by decide)) ?_ | refine AL.q rfl (OQ.fieldA (ty := 48) (i := 1) (n := 4) (off := 4) (g := true) rfl (by kernel_rfl) (by decide)) ?_) | ((with_reducible refine AL.k_load ?_); first | refine AL.q rfl (OQ.loadN (ty := 48) (n := 8) rfl (by kernel_rfl) (by kernel_rfl) rfl) ?_ | (refine AL.q rfl (OQ.load1 (ty := 3) rfl (by kernel_rfl) (by conv => lhs; whnf)) ?_) | refine AL.q rfl (OQ.loadN (ty := 34) (n := 4) rfl (by kernel_rfl) (by kernel_rfl) rfl) ?_) | ((with_reducible refine AL.k_assign ?_); first | (refine AL.q rfl (OQ.assign (by conv => lhs; whnf)) ?_)) | ((with_reducible refine AL.k_move ?_); first | (refine AL.q rfl (OQ.move (by conv => lhs; whnf)) ?_)) | ((with_reducible refine AL.k_binOp ?_); first | refine AL.q rfl (OQ.neq rfl rfl) ?_ | refine AL.q rfl (OQ.addi rfl rfl (by omega)) ?_ | refine AL.q rfl (OQ.add rfl rfl) ?_ | refine AL.q rfl (OQ.muli rfl rfl (by omega)) ?_ | refine AL.q rfl (OQ.mul rfl rfl) ?_) | ((with_reducible refine AL.k_extract ?_); first | refine AL.q rfl (OQ.extract rfl rfl) ?_) | ((with_reducible refine AL.k_indexAddr ?_); first | refine AL.q rfl (OQ.idxPtr (ty := 73) (n := 1) (l := 2) (g := false) rfl rfl (by kernel_rfl) (by omega) (by omega)) ?_) | refine AL.q rfl (OQ.arrAt (ty := 34) (k := 2) (z := 2) (g := true) rfl (by kernel_rfl) (by omega) (by omega)) ?_); (conv => (arg 5; try simp only [T.put, T.ev, putAt, setsT, newBlks, fillL, List.map, List.set, List.append, List.cons_append, List.nil_append, List.length, List.getElem?_cons_zero, List.getElem?_cons_succ, Nat.reduceAdd, Nat.reduceMul, Nat.zero_add, Nat.add_zero, Nat.mul_one, Nat.zero_mul, List.drop, List.take, List.toList_toArray, Value.cells, Int.reduceToNat, Int.toNat_natCast, List.getD, Option.getD, Option.map, flat, flat1, scal, setAll, Int.reduceAdd, if_true, ↓reduceIte])))
      | ((first | ((with_reducible refine AL.k_call ?_); first | refine AL.pcall (g := 83) rfl (by kernel_rfl) rfl (H _) ?_) | ((with_reducible refine AL.k_build ?_); first | refine AL.q rfl (OQ.buildA (ty := 34) (zs := [.int .i64 0, .int .i64 0, .int .i64 0, .int .i64 0]) (n := 2) (k := 2) (g := true) (by kernel_rfl) rfl (by kernel_rfl) rfl rfl rfl) ?_)); (conv => (arg 5; try simp only [T.put, T.ev, putAt, setsT, newBlks, fillL, List.map, List.set, List.append, List.cons_append, List.nil_append, List.length, List.getElem?_cons_zero, List.getElem?_cons_succ, Nat.reduceAdd, Nat.reduceMul, Nat.zero_add, Nat.add_zero, Nat.mul_one, Nat.zero_mul, List.drop, List.take, List.toList_toArray, Value.cells, Int.reduceToNat, Int.toNat_natCast, List.getD, Option.getD, Option.map, flat, flat1, scal, setAll, Int.reduceAdd, if_true, ↓reduceIte])))
      | ((first | ((with_reducible refine AL.k_store ?_); first | (refine AL.w rfl (OW.store (ty := 34) (n := 4) rfl (by conv => lhs; whnf) rfl rfl (by kernel_rfl) rfl rfl (by decide) rfl (Nat.le_of_ble_eq_true rfl) (by intro r h; cases h)) ?_) | (refine AL.w rfl (OW.store (ty := 73) (n := 2) rfl (by conv => lhs; whnf) rfl rfl (by kernel_rfl) rfl rfl (by decide) rfl (Nat.le_of_ble_eq_true rfl) (by intro r h; cases h)) ?_)) | ((with_reducible refine AL.k_alloc ?_); first | refine AL.w rfl (OW.alloc (ty := 34) (z := [.int .i64 0, .int .i64 0, .int .i64 0, .int .i64 0]) (by kernel_rfl) rfl) ?_ | refine AL.w rfl (OW.alloc (ty := 73) (z := [.int .i64 0, .int .i64 0]) (by kernel_rfl) rfl) ?_) | ((with_reducible refine AL.k_box ?_); first | (refine AL.w rfl (OW.box (by conv => lhs; whnf) (by intro r h; cases h)) ?_)) | ((with_reducible refine AL.k_buildSlice ?_); first | refine AL.w rfl (OW.buildSl (ty := 109) (zs := [.int .i64 0]) (n := 1) (g := false) (by kernel_rfl) (by kernel_rfl) rfl rfl rfl (by decide) (by decide) rfl rfl) ?_)); (conv => (arg 5; try simp only [T.put, T.ev, putAt, setsT, newBlks, fillL, List.map, List.set, List.append, List.cons_append, List.nil_append, List.length, List.getElem?_cons_zero, List.getElem?_cons_succ, Nat.reduceAdd, Nat.reduceMul, Nat.zero_add, Nat.add_zero, Nat.mul_one, Nat.zero_mul, List.drop, List.take, List.toList_toArray, Value.cells, Int.reduceToNat, Int.toNat_natCast, List.getD, Option.getD, Option.map, flat, flat1, scal, setAll, Int.reduceAdd, if_true, ↓reduceIte])); (conv => (arg 6; try simp only [T.put, T.ev, putAt, setsT, newBlks, fillL, List.map, List.set, List.append, List.cons_append, List.nil_append, List.length, List.getElem?_cons_zero, List.getElem?_cons_succ, Nat.reduceAdd, Nat.reduceMul, Nat.zero_add, Nat.add_zero, Nat.mul_one, Nat.zero_mul, List.drop, List.take, List.toList_toArray, Value.cells, Int.reduceToNat, Int.toNat_natCast, List.getD, Option.getD, Option.map, flat, flat1, scal, setAll, Int.reduceAdd, if_true, ↓reduceIte])))
      | refine AL.nil ?_)
    | ((with_reducible refine AW.on ?_); first
      | refine AW.seq ?_
      | refine AW.skip ?_
      | refine AW.exit ?_
      | refine AW.ret ?_
      | refine AW.block ?_
      | (refine AW.region (id := 4) ?_; exfalso; omega; done)
      | refine AW.region ?_
      | (refine AW.conds rfl (fun hc => ?_) (fun hc => ?_) <;> (try simp only [decide_eq_true_eq, decide_eq_false_iff_not, Bool.not_true, Bool.not_false, Bool.not_eq_true', Bool.not_eq_false', Int.not_lt, Int.not_le, Classical.not_not, ne_eq] at hc) <;> first | (exfalso; first | contradiction | (omega); done) | skip))
    | ((with_reducible refine FinP.on ?_); (first | refine FinP.ret (.cellN (n := 4) (by conv => lhs; whnf) (by kernel_rfl) (by kernel_rfl) rfl (.tmp (by conv => lhs; whnf) .nil)) ?_ rfl | refine FinP.end (.cellN (n := 4) (by conv => lhs; whnf) (by kernel_rfl) (by kernel_rfl) rfl (.tmp (by conv => lhs; whnf) .nil)) ?_ rfl); (try simp only [pack, List.drop, List.take]); all_goals (rfl)))
theorem UpAndEast_z (u e a b u' e' a' b' : Int) (h : siEE u e a b u' e' a' b' = 0) (hd : siD u e u' e' = 0) (m : Mem) : PCalls Try.prog 29 [siV u e a b u' e' a' b'] m (.tuple #[z4, .int .i64 30]) := by
  refine PCalls.any ?_ rfl rfl m
  have H := tracks_0 u e a b u' e' a' b' h
  rw [hd, if_pos rfl] at H
  refine PCalls.enter (t := [siV u e a b u' e' a' b', undef, undef, undef, undef, undef, undef, undef, undef, undef, undef, undef, undef, undef, undef, undef, undef, undef, undef, undef, undef, undef, undef, undef, undef, undef, undef, undef, undef, undef, undef, undef, undef, undef, undef, undef, undef, undef, undef, undef, undef, undef, undef, undef, undef, undef, undef, undef, undef, undef, undef, undef, undef, undef, undef, undef, undef]) Try.func29 rfl (ro_nil) rfl fun E => ?_
  repeat' (first
    | with_reducible refine Then.n ?_
    | with_reducible refine Then.r ?_
    | with_reducible refine Then.x ?_
    | with_reducible refine InB.n ?_
    | with_reducible refine InB.r ?_
    | with_reducible refine InB.hit ?_
    | with_reducible refine InB.miss (by decide) ?_
    | ((with_reducible refine AL.on ?_); first
      | ((first | ((with_reducible refine AL.k_fieldAddr ?_); first | refine AL.q rfl (OQ.fieldA (ty := 48) (i := 0) (n := 4) (off := 0) (g := true) rfl (by kernel_rfl) (by decide)) ?_ | refine AL.q rfl (OQ.fieldA (ty := 46) (i := 2) (n := 2) (off := 2) (g := true) rfl (by kernel_rfl) (by decide)) ?_ | refine AL.q rfl (OQ.fieldA (ty := 44) (i := 0) (n := 1) (off := 0) (g := false) rfl (by kernel_rfl) (by decide)) ?_ | refine AL.q rfl (OQ.fieldA (ty := 44) (i := 1) (n := 1) (off := 1) (g := false) rfl (by kernel_rfl) (by decide)) ?_ | refine AL.q rfl (OQ.fieldA (ty := 48) (i := 1) (n := 4) (off := 4) (g := true) rfl (by kernel_rfl) (by decide)) ?_) | ((with_reducible refine AL.k_load ?_); first | refine AL.q rfl (OQ.loadN (ty := 48) (n := 8) rfl (by kernel_rfl) (by kernel_rfl) rfl) ?_ | (refine AL.q rfl (OQ.load1 (ty := 3) rfl (by kernel_rfl) (by conv => lhs; whnf)) ?_) | refine AL.q rfl (OQ.loadN (ty := 34) (n := 4) rfl (by kernel_rfl) (by kernel_rfl) rfl) ?_) | ((with_reducible refine AL.k_assign ?_); first | (refine AL.q rfl (OQ.assign (by conv => lhs; whnf)) ?_)) | ((with_reducible refine AL.k_move ?_); first | (refine AL.q rfl (OQ.move (by conv => lhs; whnf)) ?_)) | ((with_reducible refine AL.k_binOp ?_); first | refine AL.q rfl (OQ.neq rfl rfl) ?_ | refine AL.q rfl (OQ.addi rfl rfl (by omega)) ?_ | refine AL.q rfl (OQ.add rfl rfl) ?_ | refine AL.q rfl (OQ.muli rfl rfl (by omega)) ?_ | refine AL.q rfl (OQ.mul rfl rfl) ?_) | ((with_reducible refine AL.k_extract ?_); first | refine AL.q rfl (OQ.extract rfl rfl) ?_) | ((with_reducible refine AL.k_indexAddr ?_); first | refine AL.q rfl (OQ.idxPtr (ty := 73) (n := 1) (l := 2) (g := false) rfl rfl (by kernel_rfl) (by omega) (by omega)) ?_) | refine AL.q rfl (OQ.arrAt (ty := 34) (k := 2) (z := 2) (g := true) rfl (by kernel_rfl) (by omega) (by omega)) ?_); (conv => (arg 5; try simp only [T.put, T.ev, putAt, setsT, newBlks, fillL, List.map, List.set, List.append, List.cons_append, List.nil_append, List.length, List.getElem?_cons_zero, List.getElem?_cons_succ, Nat.reduceAdd, Nat.reduceMul, Nat.zero_add, Nat.add_zero, Nat.mul_one, Nat.zero_mul, List.drop, List.take, List.toList_toArray, Value.cells, Int.reduceToNat, Int.toNat_natCast, List.getD, Option.getD, Option.map, flat, flat1, scal, setAll, Int.reduceAdd, if_true, ↓reduceIte])))
      | ((first | ((with_reducible refine AL.k_call ?_); first | refine AL.pcall (g := 83) rfl (by kernel_rfl) rfl (H _) ?_) | ((with_reducible refine AL.k_build ?_); first | refine AL.q rfl (OQ.buildA (ty := 34) (zs := [.int .i64 0, .int .i64 0, .int .i64 0, .int .i64 0]) (n := 2) (k := 2) (g := true) (by kernel_rfl) rfl (by kernel_rfl) rfl rfl rfl) ?_)); (conv => (arg 5; try simp only [T.put, T.ev, putAt, setsT, newBlks, fillL, List.map, List.set, List.append, List.cons_append, List.nil_append, List.length, List.getElem?_cons_zero, List.getElem?_cons_succ, Nat.reduceAdd, Nat.reduceMul, Nat.zero_add, Nat.add_zero, Nat.mul_one, Nat.zero_mul, List.drop, List.take, List.toList_toArray, Value.cells, Int.reduceToNat, Int.toNat_natCast, List.getD, Option.getD, Option.map, flat, flat1, scal, setAll, Int.reduceAdd, if_true, ↓reduceIte])))
      | ((first | ((with_reducible refine AL.k_store ?_); first | (refine AL.w rfl (OW.store (ty := 34) (n := 4) rfl (by conv => lhs; whnf) rfl rfl (by kernel_rfl) rfl rfl (by decide) rfl (Nat.le_of_ble_eq_true rfl) (by intro r h; cases h)) ?_) | (refine AL.w rfl (OW.store (ty := 73) (n := 2) rfl (by conv => lhs; whnf) rfl rfl (by kernel_rfl) rfl rfl (by decide) rfl (Nat.le_of_ble_eq_true rfl) (by intro r h; cases h)) ?_)) | ((with_reducible refine AL.k_alloc ?_); first | refine AL.w rfl (OW.alloc (ty := 34) (z := [.int .i64 0, .int .i64 0, .int .i64 0, .int .i64 0]) (by kernel_rfl) rfl) ?_ | refine AL.w rfl (OW.alloc (ty := 73) (z := [.int .i64 0, .int .i64 0]) (by kernel_rfl) rfl) ?_) | ((with_reducible refine AL.k_box ?_); first | (refine AL.w rfl (OW.box (by conv => lhs; whnf) (by intro r h; cases h)) ?_)) | ((with_reducible refine AL.k_buildSlice ?_); first | refine AL.w rfl (OW.buildSl (ty := 109) (zs := [.int .i64 0]) (n := 1) (g := false) (by kernel_rfl) (by kernel_rfl) rfl rfl rfl (by decide) (by decide) rfl rfl) ?_)); (conv => (arg 5; try simp only [T.put, T.ev, putAt, setsT, newBlks, fillL, List.map, List.set, List.append, List.cons_append, List.nil_append, List.length, List.getElem?_cons_zero, List.getElem?_cons_succ, Nat.reduceAdd, Nat.reduceMul, Nat.zero_add, Nat.add_zero, Nat.mul_one, Nat.zero_mul, List.drop, List.take, List.toList_toArray, Value.cells, Int.reduceToNat, Int.toNat_natCast, List.getD, Option.getD, Option.map, flat, flat1, scal, setAll, Int.reduceAdd, if_true, ↓reduceIte])); (conv => (arg 6; try simp only [T.put, T.ev, putAt, setsT, newBlks, fillL, List.map, List.set, List.append, List.cons_append, List.nil_append, List.length, List.getElem?_cons_zero, List.getElem?_cons_succ, Nat.reduceAdd, Nat.reduceMul, Nat.zero_add, Nat.add_zero, Nat.mul_one, Nat.zero_mul, List.drop, List.take, List.toList_toArray, Value.cells, Int.reduceToNat, Int.toNat_natCast, List.getD, Option.getD, Option.map, flat, flat1, scal, setAll, Int.reduceAdd, if_true, ↓reduceIte])))
      | refine AL.nil ?_)
    | ((with_reducible refine AW.on ?_); first
      | refine AW.seq ?_
      | refine AW.skip ?_
      | refine AW.exit ?_
      | refine AW.ret ?_
      | refine AW.block ?_
      | (refine AW.region (id := 4) ?_; exfalso; omega; done)
      | refine AW.region ?_
      | (refine AW.conds rfl (fun hc => ?_) (fun hc => ?_) <;> (try simp only [decide_eq_true_eq, decide_eq_false_iff_not, Bool.not_true, Bool.not_false, Bool.not_eq_true', Bool.not_eq_false', Int.not_lt, Int.not_le, Classical.not_not, ne_eq] at hc) <;> first | (exfalso; first | contradiction | (omega); done) | skip))
    | ((with_reducible refine FinP.on ?_); (first | refine FinP.ret (.cellN (n := 4) (by conv => lhs; whnf) (by kernel_rfl) (by kernel_rfl) rfl (.tmp (by conv => lhs; whnf) .nil)) ?_ rfl | refine FinP.end (.cellN (n := 4) (by conv => lhs; whnf) (by kernel_rfl) (by kernel_rfl) rfl (.tmp (by conv => lhs; whnf) .nil)) ?_ rfl); (try simp only [pack, List.drop, List.take]); all_goals (rfl)))
theorem UpAndEast_true (u e a b u' e' a' b' N M D : Int) (h : siEE u e a b u' e' a' b' = 0) (hd : siD u e u' e' ≠ 0) (hN : 1000 * ((a + b) * e' - (a' + b') * e) = N) (hM : 1000 * ((a' + b') * u - (a + b) * u') = M) (hD : 2 * siD u e u' e' = D) (hs : allSm D [N, M] = true) (m : Mem) :
    PCalls Try.prog 29 [siV u e a b u' e' a' b'] m (.tuple #[.agg #[.int .i64 (frN N D), .int .i64 (frD N D), .int .i64 (frN M D), .int .i64 (frD M D)], .int .i64 0]) := by
  obtain ⟨h1, h2⟩ := siEE_ok h
  have k1 := siE_ok h1
  have k2 := siE_ok h2
  have m1 := si_mul k1.1 k2.2.1
  have m2 := si_mul k2.1 k1.2.1
  have HB := both_q u e a b u' e' a' b' (a + b) (a' + b') h (by omega) (by omega)
  have m1 := si_mul2 (f := a + b) (by omega) k2.2.1
  have m2 := si_mul2 (f := a' + b') (by omega) k1.2.1
  have m3 := si_mul2 (f := a' + b') (by omega) k1.1
  have m4 := si_mul2 (f := a + b) (by omega) k2.1
  have HT := tracks_0 u e a b u' e' a' b' h
  rw [if_neg hd] at HT
  have hdb : -2000000 ≤ siD u e u' e' ∧ siD u e u' e' ≤ 2000000 := by unfold siD; omega
  have HF : ∀ (m : Mem) (b' cc : Nat) (blk : Blk), m.at b' = some blk → blk.cells = [.int .i64 N, .int .i64 M] → ACalls Try.prog 70 [.int .i64 D, .slice (some ⟨b', 0, none⟩) 2 cc] m (.tuple #[.slice (some ⟨m.length, 0, none⟩) 2 INF, .int .i64 0]) (m ++ [some ⟨[.int .i64 (frN N D), .int .i64 (frD N D), .int .i64 (frN M D), .int .i64 (frD M D)], true, 2⟩]) := fun m b' cc blk h1 h2 => fracs_ok D [N, M] h1 h2 rfl (by omega) (by omega) (IB2 (by omega) (by omega)) (by simp) (by simp) hs
  have hb1 : -4000000000000 ≤ (a + b) * e' - (a' + b') * e ∧ (a + b) * e' - (a' + b') * e ≤ 4000000000000 := by omega
  have hb2 : -4000000000000 ≤ (a' + b') * u - (a + b) * u' ∧ (a' + b') * u - (a + b) * u' ≤ 4000000000000 := by omega
  generalize siD u e u' e' = d at *
  generalize (a + b) * e' - (a' + b') * e = n at *
  generalize (a' + b') * u - (a + b) * u' = n' at *
  subst hN hM hD
  refine PCalls.any ?_ rfl rfl m
  refine PCalls.enter (t := [siV u e a b u' e' a' b', undef, undef, undef, undef, undef, undef, undef, undef, undef, undef, undef, undef, undef, undef, undef, undef, undef, undef, undef, undef, undef, undef, undef, undef, undef, undef, undef, undef, undef, undef, undef, undef, undef, undef, undef, undef, undef, undef, undef, undef, undef, undef, undef, undef, undef, undef, undef, undef, undef, undef, undef, undef, undef, undef, undef, undef]) Try.func29 rfl (ro_nil) rfl fun E => ?_
  repeat' (first
    | with_reducible refine Then.n ?_
    | with_reducible refine Then.r ?_
    | with_reducible refine Then.x ?_
    | with_reducible refine InB.n ?_
    | with_reducible refine InB.r ?_
    | with_reducible refine InB.hit ?_
    | with_reducible refine InB.miss (by decide) ?_
    | ((with_reducible refine AL.on ?_); first
      | ((first | ((with_reducible refine AL.k_fieldAddr ?_); first | refine AL.q rfl (OQ.fieldA (ty := 48) (i := 0) (n := 4) (off := 0) (g := true) rfl (by kernel_rfl) (by decide)) ?_ | refine AL.q rfl (OQ.fieldA (ty := 46) (i := 2) (n := 2) (off := 2) (g := true) rfl (by kernel_rfl) (by decide)) ?_ | refine AL.q rfl (OQ.fieldA (ty := 44) (i := 0) (n := 1) (off := 0) (g := false) rfl (by kernel_rfl) (by decide)) ?_ | refine AL.q rfl (OQ.fieldA (ty := 44) (i := 1) (n := 1) (off := 1) (g := false) rfl (by kernel_rfl) (by decide)) ?_ | refine AL.q rfl (OQ.fieldA (ty := 48) (i := 1) (n := 4) (off := 4) (g := true) rfl (by kernel_rfl) (by decide)) ?_) | ((with_reducible refine AL.k_load ?_); first | refine AL.q rfl (OQ.loadN (ty := 48) (n := 8) rfl (by kernel_rfl) (by kernel_rfl) rfl) ?_ | (refine AL.q rfl (OQ.load1 (ty := 3) rfl (by kernel_rfl) (by conv => lhs; whnf)) ?_) | refine AL.q rfl (OQ.loadN (ty := 34) (n := 4) rfl (by kernel_rfl) (by kernel_rfl) rfl) ?_) | ((with_reducible refine AL.k_assign ?_); first | (refine AL.q rfl (OQ.assign (by conv => lhs; whnf)) ?_)) | ((with_reducible refine AL.k_move ?_); first | (refine AL.q rfl (OQ.move (by conv => lhs; whnf)) ?_)) | ((with_reducible refine AL.k_binOp ?_); first | refine AL.q rfl (OQ.neq rfl rfl) ?_ | refine AL.q rfl (OQ.addi rfl rfl (by omega)) ?_ | refine AL.q rfl (OQ.add rfl rfl) ?_ | refine AL.q rfl (OQ.muli rfl rfl (by omega)) ?_ | refine AL.q rfl (OQ.mul rfl rfl) ?_) | ((with_reducible refine AL.k_extract ?_); first | refine AL.q rfl (OQ.extract rfl rfl) ?_) | ((with_reducible refine AL.k_indexAddr ?_); first | refine AL.q rfl (OQ.idxPtr (ty := 73) (n := 1) (l := 2) (g := false) rfl rfl (by kernel_rfl) (by omega) (by omega)) ?_) | refine AL.q rfl (OQ.arrAt (ty := 34) (k := 2) (z := 2) (g := true) rfl (by kernel_rfl) (by omega) (by omega)) ?_); (conv => (arg 5; try simp only [T.put, T.ev, putAt, setsT, newBlks, fillL, List.map, List.set, List.append, List.cons_append, List.nil_append, List.length, List.getElem?_cons_zero, List.getElem?_cons_succ, Nat.reduceAdd, Nat.reduceMul, Nat.zero_add, Nat.add_zero, Nat.mul_one, Nat.zero_mul, List.drop, List.take, List.toList_toArray, Value.cells, Int.reduceToNat, Int.toNat_natCast, List.getD, Option.getD, Option.map, flat, flat1, scal, setAll, Int.reduceAdd, if_true, ↓reduceIte])))
      | ((first | ((with_reducible refine AL.k_call ?_); first | refine AL.pcall (g := 83) rfl (by kernel_rfl) rfl (HT _) ?_ | refine AL.pcall (g := 84) rfl (by kernel_rfl) rfl (HB _) ?_) | ((with_reducible refine AL.k_build ?_); first | refine AL.q rfl (OQ.buildA (ty := 34) (zs := [.int .i64 0, .int .i64 0, .int .i64 0, .int .i64 0]) (n := 2) (k := 2) (g := true) (by kernel_rfl) rfl (by kernel_rfl) rfl rfl rfl) ?_)); (conv => (arg 5; try simp only [T.put, T.ev, putAt, setsT, newBlks, fillL, List.map, List.set, List.append, List.cons_append, List.nil_append, List.length, List.getElem?_cons_zero, List.getElem?_cons_succ, Nat.reduceAdd, Nat.reduceMul, Nat.zero_add, Nat.add_zero, Nat.mul_one, Nat.zero_mul, List.drop, List.take, List.toList_toArray, Value.cells, Int.reduceToNat, Int.toNat_natCast, List.getD, Option.getD, Option.map, flat, flat1, scal, setAll, Int.reduceAdd, if_true, ↓reduceIte])))
      | ((first | ((with_reducible refine AL.k_store ?_); first | (refine AL.w rfl (OW.store (ty := 34) (n := 4) rfl (by conv => lhs; whnf) rfl rfl (by kernel_rfl) rfl rfl (by decide) rfl (Nat.le_of_ble_eq_true rfl) (by intro r h; cases h)) ?_) | (refine AL.w rfl (OW.store (ty := 73) (n := 2) rfl (by conv => lhs; whnf) rfl rfl (by kernel_rfl) rfl rfl (by decide) rfl (Nat.le_of_ble_eq_true rfl) (by intro r h; cases h)) ?_)) | ((with_reducible refine AL.k_call ?_); first | refine AL.acall (g := 70) rfl (by kernel_rfl) rfl ((by exact HF _ _ _ _ rfl rfl)) ?_) | ((with_reducible refine AL.k_alloc ?_); first | refine AL.w rfl (OW.alloc (ty := 34) (z := [.int .i64 0, .int .i64 0, .int .i64 0, .int .i64 0]) (by kernel_rfl) rfl) ?_ | refine AL.w rfl (OW.alloc (ty := 73) (z := [.int .i64 0, .int .i64 0]) (by kernel_rfl) rfl) ?_) | ((with_reducible refine AL.k_box ?_); first | (refine AL.w rfl (OW.box (by conv => lhs; whnf) (by intro r h; cases h)) ?_)) | ((with_reducible refine AL.k_buildSlice ?_); first | refine AL.w rfl (OW.buildSl (ty := 109) (zs := [.int .i64 0]) (n := 1) (g := false) (by kernel_rfl) (by kernel_rfl) rfl rfl rfl (by decide) (by decide) rfl rfl) ?_)); (conv => (arg 5; try simp only [T.put, T.ev, putAt, setsT, newBlks, fillL, List.map, List.set, List.append, List.cons_append, List.nil_append, List.length, List.getElem?_cons_zero, List.getElem?_cons_succ, Nat.reduceAdd, Nat.reduceMul, Nat.zero_add, Nat.add_zero, Nat.mul_one, Nat.zero_mul, List.drop, List.take, List.toList_toArray, Value.cells, Int.reduceToNat, Int.toNat_natCast, List.getD, Option.getD, Option.map, flat, flat1, scal, setAll, Int.reduceAdd, if_true, ↓reduceIte])); (conv => (arg 6; try simp only [T.put, T.ev, putAt, setsT, newBlks, fillL, List.map, List.set, List.append, List.cons_append, List.nil_append, List.length, List.getElem?_cons_zero, List.getElem?_cons_succ, Nat.reduceAdd, Nat.reduceMul, Nat.zero_add, Nat.add_zero, Nat.mul_one, Nat.zero_mul, List.drop, List.take, List.toList_toArray, Value.cells, Int.reduceToNat, Int.toNat_natCast, List.getD, Option.getD, Option.map, flat, flat1, scal, setAll, Int.reduceAdd, if_true, ↓reduceIte])))
      | refine AL.nil ?_)
    | ((with_reducible refine AW.on ?_); first
      | refine AW.seq ?_
      | refine AW.skip ?_
      | refine AW.exit ?_
      | refine AW.ret ?_
      | refine AW.block ?_
      | (refine AW.region (id := 3) ?_; exfalso; omega; done)
      | (refine AW.region (id := 7) ?_; exfalso; omega; done)
      | refine AW.region ?_
      | (refine AW.conds rfl (fun hc => ?_) (fun hc => ?_) <;> (try simp only [decide_eq_true_eq, decide_eq_false_iff_not, Bool.not_true, Bool.not_false, Bool.not_eq_true', Bool.not_eq_false', Int.not_lt, Int.not_le, Classical.not_not, ne_eq] at hc) <;> first | (exfalso; first | contradiction | (omega); done) | skip))
    | ((with_reducible refine FinP.on ?_); (first | refine FinP.ret (.cellN (n := 4) (by conv => lhs; whnf) (by kernel_rfl) (by kernel_rfl) rfl (.tmp (by conv => lhs; whnf) .nil)) ?_ rfl | refine FinP.end (.cellN (n := 4) (by conv => lhs; whnf) (by kernel_rfl) (by kernel_rfl) rfl (.tmp (by conv => lhs; whnf) .nil)) ?_ rfl); (try simp only [pack, List.drop, List.take]); all_goals (rfl)))
theorem UpAndEast_false (u e a b u' e' a' b' N M D : Int) (h : siEE u e a b u' e' a' b' = 0) (hd : siD u e u' e' ≠ 0) (hN : 1000 * ((a + b) * e' - (a' + b') * e) = N) (hM : 1000 * ((a' + b') * u - (a + b) * u') = M) (hD : 2 * siD u e u' e' = D) (hs : allSm D [N, M] = false) (m : Mem) :
    PCalls Try.prog 29 [siV u e a b u' e' a' b'] m (.tuple #[z4, .int .i64 8]) := by
  obtain ⟨h1, h2⟩ := siEE_ok h
  have k1 := siE_ok h1
  have k2 := siE_ok h2
  have m1 := si_mul k1.1 k2.2.1
  have m2 := si_mul k2.1 k1.2.1
  have HB := both_q u e a b u' e' a' b' (a + b) (a' + b') h (by omega) (by omega)
  have m1 := si_mul2 (f := a + b) (by omega) k2.2.1
  have m2 := si_mul2 (f := a' + b') (by omega) k1.2.1
  have m3 := si_mul2 (f := a' + b') (by omega) k1.1
  have m4 := si_mul2 (f := a + b) (by omega) k2.1
  have HT := tracks_0 u e a b u' e' a' b' h
  rw [if_neg hd] at HT
  have hdb : -2000000 ≤ siD u e u' e' ∧ siD u e u' e' ≤ 2000000 := by unfold siD; omega
  have HF : ∀ (m : Mem) (b' cc : Nat) (blk : Blk), m.at b' = some blk → blk.cells = [.int .i64 N, .int .i64 M] → PCalls Try.prog 70 [.int .i64 D, .slice (some ⟨b', 0, none⟩) 2 cc] m (.tuple #[.slice none 0 0, .int .i64 8]) := fun m b' cc blk h1 h2 => fracs_bad D [N, M] h1 h2 rfl (by omega) (by omega) (IB2 (by omega) (by omega)) (by simp) hs
  have hb1 : -4000000000000 ≤ (a + b) * e' - (a' + b') * e ∧ (a + b) * e' - (a' + b') * e ≤ 4000000000000 := by omega
  have hb2 : -4000000000000 ≤ (a' + b') * u - (a + b) * u' ∧ (a' + b') * u - (a + b) * u' ≤ 4000000000000 := by omega
  generalize siD u e u' e' = d at *
  generalize (a + b) * e' - (a' + b') * e = n at *
  generalize (a' + b') * u - (a + b) * u' = n' at *
  subst hN hM hD
  refine PCalls.any ?_ rfl rfl m
  refine PCalls.enter (t := [siV u e a b u' e' a' b', undef, undef, undef, undef, undef, undef, undef, undef, undef, undef, undef, undef, undef, undef, undef, undef, undef, undef, undef, undef, undef, undef, undef, undef, undef, undef, undef, undef, undef, undef, undef, undef, undef, undef, undef, undef, undef, undef, undef, undef, undef, undef, undef, undef, undef, undef, undef, undef, undef, undef, undef, undef, undef, undef, undef, undef]) Try.func29 rfl (ro_nil) rfl fun E => ?_
  repeat' (first
    | with_reducible refine Then.n ?_
    | with_reducible refine Then.r ?_
    | with_reducible refine Then.x ?_
    | with_reducible refine InB.n ?_
    | with_reducible refine InB.r ?_
    | with_reducible refine InB.hit ?_
    | with_reducible refine InB.miss (by decide) ?_
    | ((with_reducible refine AL.on ?_); first
      | ((first | ((with_reducible refine AL.k_fieldAddr ?_); first | refine AL.q rfl (OQ.fieldA (ty := 48) (i := 0) (n := 4) (off := 0) (g := true) rfl (by kernel_rfl) (by decide)) ?_ | refine AL.q rfl (OQ.fieldA (ty := 46) (i := 2) (n := 2) (off := 2) (g := true) rfl (by kernel_rfl) (by decide)) ?_ | refine AL.q rfl (OQ.fieldA (ty := 44) (i := 0) (n := 1) (off := 0) (g := false) rfl (by kernel_rfl) (by decide)) ?_ | refine AL.q rfl (OQ.fieldA (ty := 44) (i := 1) (n := 1) (off := 1) (g := false) rfl (by kernel_rfl) (by decide)) ?_ | refine AL.q rfl (OQ.fieldA (ty := 48) (i := 1) (n := 4) (off := 4) (g := true) rfl (by kernel_rfl) (by decide)) ?_) | ((with_reducible refine AL.k_load ?_); first | refine AL.q rfl (OQ.loadN (ty := 48) (n := 8) rfl (by kernel_rfl) (by kernel_rfl) rfl) ?_ | (refine AL.q rfl (OQ.load1 (ty := 3) rfl (by kernel_rfl) (by conv => lhs; whnf)) ?_) | refine AL.q rfl (OQ.loadN (ty := 34) (n := 4) rfl (by kernel_rfl) (by kernel_rfl) rfl) ?_) | ((with_reducible refine AL.k_assign ?_); first | (refine AL.q rfl (OQ.assign (by conv => lhs; whnf)) ?_)) | ((with_reducible refine AL.k_move ?_); first | (refine AL.q rfl (OQ.move (by conv => lhs; whnf)) ?_)) | ((with_reducible refine AL.k_binOp ?_); first | refine AL.q rfl (OQ.neq rfl rfl) ?_ | refine AL.q rfl (OQ.addi rfl rfl (by omega)) ?_ | refine AL.q rfl (OQ.add rfl rfl) ?_ | refine AL.q rfl (OQ.muli rfl rfl (by omega)) ?_ | refine AL.q rfl (OQ.mul rfl rfl) ?_) | ((with_reducible refine AL.k_extract ?_); first | refine AL.q rfl (OQ.extract rfl rfl) ?_) | ((with_reducible refine AL.k_indexAddr ?_); first | refine AL.q rfl (OQ.idxPtr (ty := 73) (n := 1) (l := 2) (g := false) rfl rfl (by kernel_rfl) (by omega) (by omega)) ?_) | refine AL.q rfl (OQ.arrAt (ty := 34) (k := 2) (z := 2) (g := true) rfl (by kernel_rfl) (by omega) (by omega)) ?_); (conv => (arg 5; try simp only [T.put, T.ev, putAt, setsT, newBlks, fillL, List.map, List.set, List.append, List.cons_append, List.nil_append, List.length, List.getElem?_cons_zero, List.getElem?_cons_succ, Nat.reduceAdd, Nat.reduceMul, Nat.zero_add, Nat.add_zero, Nat.mul_one, Nat.zero_mul, List.drop, List.take, List.toList_toArray, Value.cells, Int.reduceToNat, Int.toNat_natCast, List.getD, Option.getD, Option.map, flat, flat1, scal, setAll, Int.reduceAdd, if_true, ↓reduceIte])))
      | ((first | ((with_reducible refine AL.k_call ?_); first | refine AL.pcall (g := 83) rfl (by kernel_rfl) rfl (HT _) ?_ | refine AL.pcall (g := 84) rfl (by kernel_rfl) rfl (HB _) ?_ | refine AL.pcall (g := 70) rfl (by kernel_rfl) rfl (HF _ _ _ _ rfl rfl) ?_) | ((with_reducible refine AL.k_build ?_); first | refine AL.q rfl (OQ.buildA (ty := 34) (zs := [.int .i64 0, .int .i64 0, .int .i64 0, .int .i64 0]) (n := 2) (k := 2) (g := true) (by kernel_rfl) rfl (by kernel_rfl) rfl rfl rfl) ?_)); (conv => (arg 5; try simp only [T.put, T.ev, putAt, setsT, newBlks, fillL, List.map, List.set, List.append, List.cons_append, List.nil_append, List.length, List.getElem?_cons_zero, List.getElem?_cons_succ, Nat.reduceAdd, Nat.reduceMul, Nat.zero_add, Nat.add_zero, Nat.mul_one, Nat.zero_mul, List.drop, List.take, List.toList_toArray, Value.cells, Int.reduceToNat, Int.toNat_natCast, List.getD, Option.getD, Option.map, flat, flat1, scal, setAll, Int.reduceAdd, if_true, ↓reduceIte])))
      | ((first | ((with_reducible refine AL.k_store ?_); first | (refine AL.w rfl (OW.store (ty := 34) (n := 4) rfl (by conv => lhs; whnf) rfl rfl (by kernel_rfl) rfl rfl (by decide) rfl (Nat.le_of_ble_eq_true rfl) (by intro r h; cases h)) ?_) | (refine AL.w rfl (OW.store (ty := 73) (n := 2) rfl (by conv => lhs; whnf) rfl rfl (by kernel_rfl) rfl rfl (by decide) rfl (Nat.le_of_ble_eq_true rfl) (by intro r h; cases h)) ?_)) | ((with_reducible refine AL.k_alloc ?_); first | refine AL.w rfl (OW.alloc (ty := 34) (z := [.int .i64 0, .int .i64 0, .int .i64 0, .int .i64 0]) (by kernel_rfl) rfl) ?_ | refine AL.w rfl (OW.alloc (ty := 73) (z := [.int .i64 0, .int .i64 0]) (by kernel_rfl) rfl) ?_) | ((with_reducible refine AL.k_box ?_); first | (refine AL.w rfl (OW.box (by conv => lhs; whnf) (by intro r h; cases h)) ?_)) | ((with_reducible refine AL.k_buildSlice ?_); first | refine AL.w rfl (OW.buildSl (ty := 109) (zs := [.int .i64 0]) (n := 1) (g := false) (by kernel_rfl) (by kernel_rfl) rfl rfl rfl (by decide) (by decide) rfl rfl) ?_)); (conv => (arg 5; try simp only [T.put, T.ev, putAt, setsT, newBlks, fillL, List.map, List.set, List.append, List.cons_append, List.nil_append, List.length, List.getElem?_cons_zero, List.getElem?_cons_succ, Nat.reduceAdd, Nat.reduceMul, Nat.zero_add, Nat.add_zero, Nat.mul_one, Nat.zero_mul, List.drop, List.take, List.toList_toArray, Value.cells, Int.reduceToNat, Int.toNat_natCast, List.getD, Option.getD, Option.map, flat, flat1, scal, setAll, Int.reduceAdd, if_true, ↓reduceIte])); (conv => (arg 6; try simp only [T.put, T.ev, putAt, setsT, newBlks, fillL, List.map, List.set, List.append, List.cons_append, List.nil_append, List.length, List.getElem?_cons_zero, List.getElem?_cons_succ, Nat.reduceAdd, Nat.reduceMul, Nat.zero_add, Nat.add_zero, Nat.mul_one, Nat.zero_mul, List.drop, List.take, List.toList_toArray, Value.cells, Int.reduceToNat, Int.toNat_natCast, List.getD, Option.getD, Option.map, flat, flat1, scal, setAll, Int.reduceAdd, if_true, ↓reduceIte])))
      | refine AL.nil ?_)
    | ((with_reducible refine AW.on ?_); first
      | refine AW.seq ?_
      | refine AW.skip ?_
      | refine AW.exit ?_
      | refine AW.ret ?_
      | refine AW.block ?_
      | (refine AW.region (id := 3) ?_; exfalso; omega; done)
      | (refine AW.region (id := 8) ?_; exfalso; omega; done)
      | refine AW.region ?_
      | (refine AW.conds rfl (fun hc => ?_) (fun hc => ?_) <;> (try simp only [decide_eq_true_eq, decide_eq_false_iff_not, Bool.not_true, Bool.not_false, Bool.not_eq_true', Bool.not_eq_false', Int.not_lt, Int.not_le, Classical.not_not, ne_eq] at hc) <;> first | (exfalso; first | contradiction | (omega); done) | skip))
    | ((with_reducible refine FinP.on ?_); (first | refine FinP.ret (.cellN (n := 4) (by conv => lhs; whnf) (by kernel_rfl) (by kernel_rfl) rfl (.tmp (by conv => lhs; whnf) .nil)) ?_ rfl | refine FinP.end (.cellN (n := 4) (by conv => lhs; whnf) (by kernel_rfl) (by kernel_rfl) rfl (.tmp (by conv => lhs; whnf) .nil)) ?_ rfl); (try simp only [pack, List.drop, List.take]); all_goals (rfl)))

/-- n / d and a whole number, compared. -/
def cmpF (n d k : Int) : Int := if n / d < k then -1 else if k < n / d then 1 else if n - n / d * d = 0 then 0 else 1
theorem Compare_q (n d k : Int) (hd : 0 < d ∧ d ≤ 1000000000) (hn : -9000000000000000000 ≤ n ∧ n ≤ 9000000000000000000) (hk : -9000000000000000000 ≤ k ∧ k ≤ 9000000000000000000) (m : Mem) : PCalls Try.prog 33 [.int .i64 n, .int .i64 d, .int .i64 k, .int .i64 1] m (.int .i64 (cmpF n d k)) := by
  have F1 := rFloor_q n d hd.1 hn
  have F2 := rFloor_q k 1 (by decide) hk
  rw [Int.ediv_one] at F2
  have e1 := Int.emod_nonneg n (by omega : d ≠ 0)
  have e2 := Int.emod_lt_of_pos n hd.1
  have e3 := Int.mul_ediv_add_emod n d
  rw [Int.mul_comm] at e3
  unfold cmpF
  generalize n % d = r at *
  generalize n / d = q at *
  refine PCalls.any ?_ rfl rfl m
  refine PCalls.enter (t := [.int .i64 n, .int .i64 d, .int .i64 k, .int .i64 1, undef, undef, undef, undef, undef, undef, undef, undef, undef, undef, undef, undef, undef, undef, undef, undef, undef, undef, undef, undef, undef, undef, undef, undef, undef, undef, undef, undef, undef, undef, undef, undef, undef, undef, undef, undef, undef, undef, undef, undef, undef, undef, undef]) Try.func33 rfl (ro_nil) rfl fun E => ?_
  repeat' (first
    | with_reducible refine Then.n ?_
    | with_reducible refine Then.r ?_
    | with_reducible refine Then.x ?_
    | with_reducible refine InB.n ?_
    | with_reducible refine InB.r ?_
    | with_reducible refine InB.hit ?_
    | with_reducible refine InB.miss (by decide) ?_
    | ((with_reducible refine AL.on ?_); first
      | (refine AL.gd rfl ?_; first | (refine AL.gskip rfl rfl ?_; (conv => (arg 5; try simp only [T.put, T.ev, putAt, setsT, newBlks, fillL, List.map, List.set, List.append, List.cons_append, List.nil_append, List.length, List.getElem?_cons_zero, List.getElem?_cons_succ, Nat.reduceAdd, Nat.reduceMul, Nat.zero_add, Nat.add_zero, Nat.mul_one, Nat.zero_mul, List.drop, List.take, List.toList_toArray, Value.cells, Int.reduceToNat, Int.toNat_natCast, List.getD, Option.getD, Option.map, flat, flat1, scal, setAll, Int.reduceAdd, if_true, ↓reduceIte]))) | (refine AL.gs1 rfl rfl (fun hc => ?_) (fun hc => ?_) <;> (try simp only [decide_eq_true_eq, decide_eq_false_iff_not, Bool.not_true, Bool.not_false, Bool.not_eq_true', Bool.not_eq_false', Int.not_lt, Int.not_le, Classical.not_not, ne_eq] at hc) <;> first | (exfalso; first | contradiction | (omega); done) | (conv => (arg 5; try simp only [T.put, T.ev, putAt, setsT, newBlks, fillL, List.map, List.set, List.append, List.cons_append, List.nil_append, List.length, List.getElem?_cons_zero, List.getElem?_cons_succ, Nat.reduceAdd, Nat.reduceMul, Nat.zero_add, Nat.add_zero, Nat.mul_one, Nat.zero_mul, List.drop, List.take, List.toList_toArray, Value.cells, Int.reduceToNat, Int.toNat_natCast, List.getD, Option.getD, Option.map, flat, flat1, scal, setAll, Int.reduceAdd, if_true, ↓reduceIte]))) | (refine AL.gs0 rfl rfl (fun hc => ?_) (fun hc => ?_) <;> (try simp only [decide_eq_true_eq, decide_eq_false_iff_not, Bool.not_true, Bool.not_false, Bool.not_eq_true', Bool.not_eq_false', Int.not_lt, Int.not_le, Classical.not_not, ne_eq] at hc) <;> first | (exfalso; first | contradiction | (omega); done) | (conv => (arg 5; try simp only [T.put, T.ev, putAt, setsT, newBlks, fillL, List.map, List.set, List.append, List.cons_append, List.nil_append, List.length, List.getElem?_cons_zero, List.getElem?_cons_succ, Nat.reduceAdd, Nat.reduceMul, Nat.zero_add, Nat.add_zero, Nat.mul_one, Nat.zero_mul, List.drop, List.take, List.toList_toArray, Value.cells, Int.reduceToNat, Int.toNat_natCast, List.getD, Option.getD, Option.map, flat, flat1, scal, setAll, Int.reduceAdd, if_true, ↓reduceIte]))))
      | ((first | ((with_reducible refine AL.k_move ?_); first | (refine AL.q rfl (OQ.move (by conv => lhs; whnf)) ?_)) | ((with_reducible refine AL.k_assign ?_); first | (refine AL.q rfl (OQ.assign (by conv => lhs; whnf)) ?_)) | ((with_reducible refine AL.k_binOp ?_); first | refine AL.q rfl (OQ.lss rfl rfl) ?_ | refine AL.q rfl (OQ.gtr rfl rfl) ?_ | refine AL.q rfl (OQ.muli rfl rfl (by omega)) ?_ | refine AL.q rfl (OQ.mul rfl rfl) ?_ | refine AL.q rfl (OQ.subi rfl rfl (by omega)) ?_ | refine AL.q rfl (OQ.sub rfl rfl) ?_ | refine AL.q rfl (OQ.eql rfl rfl) ?_) | ((with_reducible refine AL.k_pick ?_); first | (refine AL.q rfl (OQ.pickT rfl (by with_reducible rfl) (by conv => lhs; whnf)) ?_) | (refine AL.q rfl (OQ.pickF rfl (by with_reducible rfl) (by conv => lhs; whnf)) ?_))); (conv => (arg 5; try simp only [T.put, T.ev, putAt, setsT, newBlks, fillL, List.map, List.set, List.append, List.cons_append, List.nil_append, List.length, List.getElem?_cons_zero, List.getElem?_cons_succ, Nat.reduceAdd, Nat.reduceMul, Nat.zero_add, Nat.add_zero, Nat.mul_one, Nat.zero_mul, List.drop, List.take, List.toList_toArray, Value.cells, Int.reduceToNat, Int.toNat_natCast, List.getD, Option.getD, Option.map, flat, flat1, scal, setAll, Int.reduceAdd, if_true, ↓reduceIte])))
      | ((first | first | refine AL.pcall (g := 25) rfl (by kernel_rfl) rfl ((by first | exact F1 _ | exact F2 _)) ?_); (conv => (arg 5; try simp only [T.put, T.ev, putAt, setsT, newBlks, fillL, List.map, List.set, List.append, List.cons_append, List.nil_append, List.length, List.getElem?_cons_zero, List.getElem?_cons_succ, Nat.reduceAdd, Nat.reduceMul, Nat.zero_add, Nat.add_zero, Nat.mul_one, Nat.zero_mul, List.drop, List.take, List.toList_toArray, Value.cells, Int.reduceToNat, Int.toNat_natCast, List.getD, Option.getD, Option.map, flat, flat1, scal, setAll, Int.reduceAdd, if_true, ↓reduceIte])))
      | (refine AL.bs rfl (fun hc => ?_) (fun hc => ?_) <;> (fail_if_success (with_reducible exact lit_no hc)) <;> (try simp only [decide_eq_true_eq, decide_eq_false_iff_not, Bool.not_true, Bool.not_false, Bool.not_eq_true', Bool.not_eq_false', Int.not_lt, Int.not_le, Classical.not_not, ne_eq] at hc) <;> first | (exfalso; first | contradiction | (omega); done) | (conv => (arg 5; try simp only [T.put, T.ev, putAt, setsT, newBlks, fillL, List.map, List.set, List.append, List.cons_append, List.nil_append, List.length, List.getElem?_cons_zero, List.getElem?_cons_succ, Nat.reduceAdd, Nat.reduceMul, Nat.zero_add, Nat.add_zero, Nat.mul_one, Nat.zero_mul, List.drop, List.take, List.toList_toArray, Value.cells, Int.reduceToNat, Int.toNat_natCast, List.getD, Option.getD, Option.map, flat, flat1, scal, setAll, Int.reduceAdd, if_true, ↓reduceIte])))
      | refine AL.nil ?_)
    | ((with_reducible refine AW.on ?_); first
      | refine AW.seq ?_
      | refine AW.skip ?_
      | refine AW.exit ?_
      | refine AW.ret ?_
      | (refine AW.block (id := 0) ?_; refine AW.unroll 1 ?_)
      | refine AW.block ?_
      | refine AW.region ?_
      | (refine AW.conds rfl (fun hc => ?_) (fun hc => ?_) <;> (try simp only [decide_eq_true_eq, decide_eq_false_iff_not, Bool.not_true, Bool.not_false, Bool.not_eq_true', Bool.not_eq_false', Int.not_lt, Int.not_le, Classical.not_not, ne_eq] at hc) <;> first | (exfalso; first | contradiction | (omega); done) | skip))
    | with_reducible refine AR.s ?_
    | ((with_reducible refine AR.out ?_); omega; done)
    | ((with_reducible refine FinP.on ?_); (first | refine FinP.ret (.tmp (by conv => lhs; whnf) .nil) ?_ rfl | refine FinP.end (.tmp (by conv => lhs; whnf) .nil) ?_ rfl); (try simp only [pack, List.drop, List.take]); all_goals (congr 1; split <;> (try split) <;> (try split) <;> omega)))
theorem cmpF_ge {n d k : Int} (hd : 0 < d) (h : k * d ≤ n) : ¬ cmpF n d k < 0 := by
  have := Int.ediv_le_ediv hd h
  rw [Int.mul_ediv_cancel _ (by omega)] at this
  unfold cmpF
  split <;> (try split) <;> (try split) <;> omega
theorem cmpF_le {n d k : Int} (hd : 0 < d) (h : n ≤ k * d) : ¬ 0 < cmpF n d k := by
  have h1 := Int.ediv_le_ediv hd h
  rw [Int.mul_ediv_cancel _ (by omega)] at h1
  have e3 := Int.mul_ediv_add_emod n d
  have e1 := Int.emod_nonneg n (by omega : d ≠ 0)
  unfold cmpF
  split
  · omega
  · split
    · omega
    · rename_i h2 h3
      have : n / d = k := by omega
      rw [this] at e3 ⊢
      rw [Int.mul_comm] at e3
      split <;> omega

theorem Tracks_e (u e a b u' e' a' b' c : Int) (h : siEE u e a b u' e' a' b' = c) (hc : c ≠ 0) : PCalls Try.prog 5 [siV u e a b u' e' a' b'] [] (.bool true) := by
  have HA := awake_q
  have H1 := UpAndEast_e u e a b u' e' a' b' c h hc
  have H2 := Box_e u e a b u' e' a' b' c h hc
  have H3 := rCheckSights_q u e a b u' e' a' b'
  have H4 := CheckSights_q u e a b u' e' a' b'
  rw [h] at H3 H4
  refine PCalls.enter (t := [siV u e a b u' e' a' b', undef, undef, undef, undef, undef, undef, undef, undef, undef, undef, undef, undef, undef, undef, undef, undef, undef, undef, undef, undef, undef, undef, undef, undef, undef, undef, undef, undef, undef, undef, undef, undef, undef, undef, undef, undef, undef, undef, undef, undef, undef, undef, undef, undef, undef, undef, undef, undef, undef, undef, undef, undef, undef, undef, undef, undef, undef, undef, undef, undef, undef, undef, undef, undef, undef, undef, undef, undef, undef, undef, undef, undef, undef, undef, undef, undef, undef, undef, undef, undef, undef, undef, undef, undef, undef, undef, undef, undef, undef, undef, undef, undef, undef, undef, undef, undef, undef, undef, undef, undef, undef, undef, undef, undef, undef, undef, undef, undef, undef, undef, undef, undef, undef, undef, undef]) Try.func5 rfl (ro_nil) rfl fun E => ?_
  repeat' (first
    | with_reducible refine Then.n ?_
    | with_reducible refine Then.r ?_
    | with_reducible refine Then.x ?_
    | with_reducible refine InB.n ?_
    | with_reducible refine InB.r ?_
    | with_reducible refine InB.hit ?_
    | with_reducible refine InB.miss (by decide) ?_
    | ((with_reducible refine AL.on ?_); first
      | (refine AL.gd rfl ?_; first | (refine AL.gskip rfl rfl ?_; (conv => (arg 5; try simp only [T.put, T.ev, putAt, setsT, newBlks, fillL, List.map, List.set, List.append, List.cons_append, List.nil_append, List.length, List.getElem?_cons_zero, List.getElem?_cons_succ, Nat.reduceAdd, Nat.reduceMul, Nat.zero_add, Nat.add_zero, Nat.mul_one, Nat.zero_mul, List.drop, List.take, List.toList_toArray, Value.cells, Int.reduceToNat, Int.toNat_natCast, List.getD, Option.getD, Option.map, flat, flat1, scal, setAll, Int.reduceAdd, if_true, ↓reduceIte]))) | (refine AL.gs1 rfl rfl (fun hc => ?_) (fun hc => ?_) <;> (try simp only [decide_eq_true_eq, decide_eq_false_iff_not, Bool.not_true, Bool.not_false, Bool.not_eq_true', Bool.not_eq_false', Int.not_lt, Int.not_le, Classical.not_not, ne_eq] at hc) <;> first | (exfalso; first | contradiction | (first | omega | (simp_all; done)); done) | (conv => (arg 5; try simp only [T.put, T.ev, putAt, setsT, newBlks, fillL, List.map, List.set, List.append, List.cons_append, List.nil_append, List.length, List.getElem?_cons_zero, List.getElem?_cons_succ, Nat.reduceAdd, Nat.reduceMul, Nat.zero_add, Nat.add_zero, Nat.mul_one, Nat.zero_mul, List.drop, List.take, List.toList_toArray, Value.cells, Int.reduceToNat, Int.toNat_natCast, List.getD, Option.getD, Option.map, flat, flat1, scal, setAll, Int.reduceAdd, if_true, ↓reduceIte]))) | (refine AL.gs0 rfl rfl (fun hc => ?_) (fun hc => ?_) <;> (try simp only [decide_eq_true_eq, decide_eq_false_iff_not, Bool.not_true, Bool.not_false, Bool.not_eq_true', Bool.not_eq_false', Int.not_lt, Int.not_le, Classical.not_not, ne_eq] at hc) <;> first | (exfalso; first | contradiction | (first | omega | (simp_all; done)); done) | (conv => (arg 5; try simp only [T.put, T.ev, putAt, setsT, newBlks, fillL, List.map, List.set, List.append, List.cons_append, List.nil_append, List.length, List.getElem?_cons_zero, List.getElem?_cons_succ, Nat.reduceAdd, Nat.reduceMul, Nat.zero_add, Nat.add_zero, Nat.mul_one, Nat.zero_mul, List.drop, List.take, List.toList_toArray, Value.cells, Int.reduceToNat, Int.toNat_natCast, List.getD, Option.getD, Option.map, flat, flat1, scal, setAll, Int.reduceAdd, if_true, ↓reduceIte]))))
      | ((first | ((with_reducible refine AL.k_move ?_); first | (refine AL.q rfl (OQ.move (by conv => lhs; whnf)) ?_)) | ((with_reducible refine AL.k_load ?_); first | refine AL.q rfl (OQ.loadN (ty := 48) (n := 8) rfl (by kernel_rfl) (by kernel_rfl) rfl) ?_ | refine AL.q rfl (OQ.loadN (ty := 34) (n := 4) rfl (by kernel_rfl) (by kernel_rfl) rfl) ?_ | refine AL.q rfl (OQ.loadN (ty := 54) (n := 4) rfl (by kernel_rfl) (by kernel_rfl) rfl) ?_) | ((with_reducible refine AL.k_binOp ?_); first | refine AL.q rfl (OQ.neq rfl rfl) ?_ | refine AL.q rfl (OQ.eql rfl rfl) ?_ | refine AL.q rfl (eql_t34 rfl rfl) ?_ | refine AL.q rfl (eql_t54 rfl rfl) ?_ | refine AL.q rfl (nel_t34 rfl rfl) ?_ | refine AL.q rfl (nel_t54 rfl rfl) ?_ | refine AL.q rfl (OQ.lss rfl rfl) ?_ | refine AL.q rfl (OQ.addi rfl rfl (by omega)) ?_ | refine AL.q rfl (OQ.add rfl rfl) ?_) | ((with_reducible refine AL.k_assign ?_); first | (refine AL.q rfl (OQ.assign (by conv => lhs; whnf)) ?_)) | ((with_reducible refine AL.k_extract ?_); first | refine AL.q rfl (OQ.extract rfl rfl) ?_) | ((with_reducible refine AL.k_pick ?_); first | (refine AL.q rfl (OQ.pickT rfl (by with_reducible rfl) (by conv => lhs; whnf)) ?_) | (refine AL.q rfl (OQ.pickF rfl (by with_reducible rfl) (by conv => lhs; whnf)) ?_)) | ((with_reducible refine AL.k_unOp ?_); first | refine AL.q rfl (OQ.not rfl) ?_)); (conv => (arg 5; try simp only [T.put, T.ev, putAt, setsT, newBlks, fillL, List.map, List.set, List.append, List.cons_append, List.nil_append, List.length, List.getElem?_cons_zero, List.getElem?_cons_succ, Nat.reduceAdd, Nat.reduceMul, Nat.zero_add, Nat.add_zero, Nat.mul_one, Nat.zero_mul, List.drop, List.take, List.toList_toArray, Value.cells, Int.reduceToNat, Int.toNat_natCast, List.getD, Option.getD, Option.map, flat, flat1, scal, setAll, Int.reduceAdd, if_true, ↓reduceIte])))
      | ((first | ((with_reducible refine AL.k_call ?_); first | refine AL.pcall (g := 15) rfl (by kernel_rfl) rfl (HA _) ?_ | refine AL.pcall (g := 29) rfl (by kernel_rfl) rfl (H1 _) ?_ | refine AL.pcall (g := 27) rfl (by kernel_rfl) rfl (H2 _) ?_ | refine AL.pcall (g := 23) rfl (by kernel_rfl) rfl (H3 _) ?_ | refine AL.pcall (g := 30) rfl (by kernel_rfl) rfl (H4 _) ?_) | ((with_reducible refine AL.k_build ?_); first | refine AL.q rfl (OQ.buildA (ty := 34) (zs := [.int .i64 0, .int .i64 0, .int .i64 0, .int .i64 0]) (n := 2) (k := 2) (g := true) (by kernel_rfl) rfl (by kernel_rfl) rfl rfl rfl) ?_ | refine AL.q rfl (OQ.buildA (ty := 54) (zs := [.int .i64 0, .int .i64 0, .int .i64 0, .int .i64 0]) (n := 2) (k := 2) (g := true) (by kernel_rfl) rfl (by kernel_rfl) rfl rfl rfl) ?_)); (conv => (arg 5; try simp only [T.put, T.ev, putAt, setsT, newBlks, fillL, List.map, List.set, List.append, List.cons_append, List.nil_append, List.length, List.getElem?_cons_zero, List.getElem?_cons_succ, Nat.reduceAdd, Nat.reduceMul, Nat.zero_add, Nat.add_zero, Nat.mul_one, Nat.zero_mul, List.drop, List.take, List.toList_toArray, Value.cells, Int.reduceToNat, Int.toNat_natCast, List.getD, Option.getD, Option.map, flat, flat1, scal, setAll, Int.reduceAdd, if_true, ↓reduceIte])))
      | ((first | ((with_reducible refine AL.k_alloc ?_); first | refine AL.w rfl (OW.alloc (ty := 34) (z := [.int .i64 0, .int .i64 0, .int .i64 0, .int .i64 0]) (by kernel_rfl) rfl) ?_ | refine AL.w rfl (OW.alloc (ty := 54) (z := [.int .i64 0, .int .i64 0, .int .i64 0, .int .i64 0]) (by kernel_rfl) rfl) ?_) | ((with_reducible refine AL.k_store ?_); first | (refine AL.w rfl (OW.store (ty := 34) (n := 4) rfl (by conv => lhs; whnf) rfl rfl (by kernel_rfl) rfl rfl (by decide) rfl (Nat.le_of_ble_eq_true rfl) (by intro r h; cases h)) ?_) | (refine AL.w rfl (OW.store (ty := 54) (n := 4) rfl (by conv => lhs; whnf) rfl rfl (by kernel_rfl) rfl rfl (by decide) rfl (Nat.le_of_ble_eq_true rfl) (by intro r h; cases h)) ?_)) | ((with_reducible refine AL.k_box ?_); first | (refine AL.w rfl (OW.box (by conv => lhs; whnf) (by intro r h; cases h)) ?_))); (conv => (arg 5; try simp only [T.put, T.ev, putAt, setsT, newBlks, fillL, List.map, List.set, List.append, List.cons_append, List.nil_append, List.length, List.getElem?_cons_zero, List.getElem?_cons_succ, Nat.reduceAdd, Nat.reduceMul, Nat.zero_add, Nat.add_zero, Nat.mul_one, Nat.zero_mul, List.drop, List.take, List.toList_toArray, Value.cells, Int.reduceToNat, Int.toNat_natCast, List.getD, Option.getD, Option.map, flat, flat1, scal, setAll, Int.reduceAdd, if_true, ↓reduceIte])); (conv => (arg 6; try simp only [T.put, T.ev, putAt, setsT, newBlks, fillL, List.map, List.set, List.append, List.cons_append, List.nil_append, List.length, List.getElem?_cons_zero, List.getElem?_cons_succ, Nat.reduceAdd, Nat.reduceMul, Nat.zero_add, Nat.add_zero, Nat.mul_one, Nat.zero_mul, List.drop, List.take, List.toList_toArray, Value.cells, Int.reduceToNat, Int.toNat_natCast, List.getD, Option.getD, Option.map, flat, flat1, scal, setAll, Int.reduceAdd, if_true, ↓reduceIte])))
      | (refine AL.bs rfl (fun hc => ?_) (fun hc => ?_) <;> (fail_if_success (with_reducible exact lit_no hc)) <;> (try simp only [decide_eq_true_eq, decide_eq_false_iff_not, Bool.not_true, Bool.not_false, Bool.not_eq_true', Bool.not_eq_false', Int.not_lt, Int.not_le, Classical.not_not, ne_eq] at hc) <;> first | (exfalso; first | contradiction | (first | omega | (simp_all; done)); done) | (conv => (arg 5; try simp only [T.put, T.ev, putAt, setsT, newBlks, fillL, List.map, List.set, List.append, List.cons_append, List.nil_append, List.length, List.getElem?_cons_zero, List.getElem?_cons_succ, Nat.reduceAdd, Nat.reduceMul, Nat.zero_add, Nat.add_zero, Nat.mul_one, Nat.zero_mul, List.drop, List.take, List.toList_toArray, Value.cells, Int.reduceToNat, Int.toNat_natCast, List.getD, Option.getD, Option.map, flat, flat1, scal, setAll, Int.reduceAdd, if_true, ↓reduceIte])))
      | refine AL.nil ?_)
    | ((with_reducible refine AW.on ?_); first
      | refine AW.seq ?_
      | refine AW.skip ?_
      | refine AW.exit ?_
      | refine AW.ret ?_
      | refine AW.block ?_
      | (refine AW.draw (id := 17) 30 #[0, 1, 3, 7, 0, 16, 48, 112, 0, 256, 768, 1792, 4095, 8191, 16383, 32767, 65535, 131071, 262143, 32767, 557055, 1605631, 3702783, 32767, 8421375, 25198591, 58753023, 134217727, 268435455, 536870911] (by kernel_rfl) (by kernel_rfl) ?_; (conv => (arg 8; simp only [List.take_succ_cons, List.take_zero])))
      | (refine AW.region (id := 2) ?_; exfalso; first | omega | (simp_all; done); done)
      | (refine AW.region (id := 7) ?_; exfalso; first | omega | (simp_all; done); done)
      | (refine AW.region (id := 10) ?_; exfalso; first | omega | (simp_all; done); done)
      | refine AW.region ?_
      | (refine AW.conds rfl (fun hc => ?_) (fun hc => ?_) <;> (try simp only [decide_eq_true_eq, decide_eq_false_iff_not, Bool.not_true, Bool.not_false, Bool.not_eq_true', Bool.not_eq_false', Int.not_lt, Int.not_le, Classical.not_not, ne_eq] at hc) <;> first | (exfalso; first | contradiction | (first | omega | (simp_all; done)); done) | skip))
    | ((with_reducible refine AD.on ?_); first
      | (refine AD.gskip rfl rfl rfl ?_; (conv => (arg 10; try simp only [T.put, T.ev, putAt, setsT, newBlks, fillL, List.map, List.set, List.append, List.cons_append, List.nil_append, List.length, List.getElem?_cons_zero, List.getElem?_cons_succ, Nat.reduceAdd, Nat.reduceMul, Nat.zero_add, Nat.add_zero, Nat.mul_one, Nat.zero_mul, List.drop, List.take, List.toList_toArray, Value.cells, Int.reduceToNat, Int.toNat_natCast, List.getD, Option.getD, Option.map, flat, flat1, scal, setAll, Int.reduceAdd, if_true, ↓reduceIte])))
      | ((first | refine AD.gn1 rfl rfl (by with_reducible rfl) rfl ?_ | refine AD.gn0 rfl rfl (by with_reducible rfl) rfl ?_); (conv => (arg 10; try simp only [T.put, T.ev, putAt, setsT, newBlks, fillL, List.map, List.set, List.append, List.cons_append, List.nil_append, List.length, List.getElem?_cons_zero, List.getElem?_cons_succ, Nat.reduceAdd, Nat.reduceMul, Nat.zero_add, Nat.add_zero, Nat.mul_one, Nat.zero_mul, List.drop, List.take, List.toList_toArray, Value.cells, Int.reduceToNat, Int.toNat_natCast, List.getD, Option.getD, Option.map, flat, flat1, scal, setAll, Int.reduceAdd, if_true, ↓reduceIte])))
      | ((first | ((with_reducible refine AD.k_move ?_); first | (refine AD.q rfl (OQ.move (by conv => lhs; whnf)) rfl rfl rfl ?_) | (refine AD.qc rfl rfl (by with_reducible rfl) (OQ.move (by conv => lhs; whnf)) rfl rfl rfl ?_)) | ((with_reducible refine AD.k_load ?_); first | (refine AD.q rfl (OQ.load1 (ty := 3) rfl (by kernel_rfl) (by conv => lhs; whnf)) rfl rfl rfl ?_) | (refine AD.qc rfl rfl (by with_reducible rfl) (OQ.load1 (ty := 3) rfl (by kernel_rfl) (by conv => lhs; whnf)) rfl rfl rfl ?_)) | ((with_reducible refine AD.k_binOp ?_); first | refine AD.q rfl (OQ.lss rfl rfl) rfl rfl rfl ?_ | refine AD.qc rfl rfl (by with_reducible rfl) (OQ.gtr rfl rfl) rfl rfl rfl ?_) | ((with_reducible refine AD.k_pick ?_); first | (refine AD.q rfl (OQ.pickT rfl (by with_reducible rfl) (by conv => lhs; whnf)) rfl rfl rfl ?_) | (refine AD.q rfl (OQ.pickF rfl (by with_reducible rfl) (by conv => lhs; whnf)) rfl rfl rfl ?_)) | ((with_reducible refine AD.k_indexAddr ?_); first | refine AD.q rfl (OQ.idxPtr (ty := 34) (n := 2) (l := 2) (g := true) rfl rfl (by kernel_rfl) (by omega) (by omega)) rfl rfl rfl ?_ | refine AD.q rfl (OQ.idxPtr (ty := 54) (n := 2) (l := 2) (g := true) rfl rfl (by kernel_rfl) (by omega) (by omega)) rfl rfl rfl ?_ | refine AD.qc rfl rfl (by with_reducible rfl) (OQ.idxPtr (ty := 34) (n := 2) (l := 2) (g := true) rfl rfl (by kernel_rfl) (by omega) (by omega)) rfl rfl rfl ?_ | refine AD.qc rfl rfl (by with_reducible rfl) (OQ.idxPtr (ty := 54) (n := 2) (l := 2) (g := true) rfl rfl (by kernel_rfl) (by omega) (by omega)) rfl rfl rfl ?_) | ((with_reducible refine AD.k_fieldAddr ?_); first | refine AD.q rfl (OQ.fieldA (ty := 28) (i := 0) (n := 1) (off := 0) (g := false) rfl (by kernel_rfl) (by decide)) rfl rfl rfl ?_ | refine AD.q rfl (OQ.fieldA (ty := 28) (i := 1) (n := 1) (off := 1) (g := false) rfl (by kernel_rfl) (by decide)) rfl rfl rfl ?_ | refine AD.q rfl (OQ.fieldA (ty := 44) (i := 0) (n := 1) (off := 0) (g := false) rfl (by kernel_rfl) (by decide)) rfl rfl rfl ?_ | refine AD.qc rfl rfl (by with_reducible rfl) (OQ.fieldA (ty := 28) (i := 0) (n := 1) (off := 0) (g := false) rfl (by kernel_rfl) (by decide)) rfl rfl rfl ?_ | refine AD.qc rfl rfl (by with_reducible rfl) (OQ.fieldA (ty := 28) (i := 1) (n := 1) (off := 1) (g := false) rfl (by kernel_rfl) (by decide)) rfl rfl rfl ?_ | refine AD.qc rfl rfl (by with_reducible rfl) (OQ.fieldA (ty := 44) (i := 1) (n := 1) (off := 1) (g := false) rfl (by kernel_rfl) (by decide)) rfl rfl rfl ?_)); (conv => (arg 10; try simp only [T.put, T.ev, putAt, setsT, newBlks, fillL, List.map, List.set, List.append, List.cons_append, List.nil_append, List.length, List.getElem?_cons_zero, List.getElem?_cons_succ, Nat.reduceAdd, Nat.reduceMul, Nat.zero_add, Nat.add_zero, Nat.mul_one, Nat.zero_mul, List.drop, List.take, List.toList_toArray, Value.cells, Int.reduceToNat, Int.toNat_natCast, List.getD, Option.getD, Option.map, flat, flat1, scal, setAll, Int.reduceAdd, if_true, ↓reduceIte])))
      | (refine AD.bs rfl (fun hc => ?_) (fun hc => ?_) <;> (fail_if_success (with_reducible exact lit_no hc)) <;> (try simp only [decide_eq_true_eq, decide_eq_false_iff_not, Bool.not_true, Bool.not_false, Bool.not_eq_true', Bool.not_eq_false', Int.not_lt, Int.not_le, Classical.not_not, ne_eq] at hc) <;> first | (exfalso; first | contradiction | (first | omega | (simp_all; done)); done) | (conv => (arg 10; try simp only [T.put, T.ev, putAt, setsT, newBlks, fillL, List.map, List.set, List.append, List.cons_append, List.nil_append, List.length, List.getElem?_cons_zero, List.getElem?_cons_succ, Nat.reduceAdd, Nat.reduceMul, Nat.zero_add, Nat.add_zero, Nat.mul_one, Nat.zero_mul, List.drop, List.take, List.toList_toArray, Value.cells, Int.reduceToNat, Int.toNat_natCast, List.getD, Option.getD, Option.map, flat, flat1, scal, setAll, Int.reduceAdd, if_true, ↓reduceIte])))
      | (refine AD.gs1 rfl rfl (fun hc => ?_) (fun hc => ?_) <;> (fail_if_success (with_reducible exact lit_no hc)) <;> (try simp only [decide_eq_true_eq, decide_eq_false_iff_not, Bool.not_true, Bool.not_false, Bool.not_eq_true', Bool.not_eq_false', Int.not_lt, Int.not_le, Classical.not_not, ne_eq] at hc) <;> first | (exfalso; first | contradiction | (first | omega | (simp_all; done)); done) | (conv => (arg 10; try simp only [T.put, T.ev, putAt, setsT, newBlks, fillL, List.map, List.set, List.append, List.cons_append, List.nil_append, List.length, List.getElem?_cons_zero, List.getElem?_cons_succ, Nat.reduceAdd, Nat.reduceMul, Nat.zero_add, Nat.add_zero, Nat.mul_one, Nat.zero_mul, List.drop, List.take, List.toList_toArray, Value.cells, Int.reduceToNat, Int.toNat_natCast, List.getD, Option.getD, Option.map, flat, flat1, scal, setAll, Int.reduceAdd, if_true, ↓reduceIte])))
      | (refine AD.gs0 rfl rfl (fun hc => ?_) (fun hc => ?_) <;> (fail_if_success (with_reducible exact lit_no hc)) <;> (try simp only [decide_eq_true_eq, decide_eq_false_iff_not, Bool.not_true, Bool.not_false, Bool.not_eq_true', Bool.not_eq_false', Int.not_lt, Int.not_le, Classical.not_not, ne_eq] at hc) <;> first | (exfalso; first | contradiction | (first | omega | (simp_all; done)); done) | (conv => (arg 10; try simp only [T.put, T.ev, putAt, setsT, newBlks, fillL, List.map, List.set, List.append, List.cons_append, List.nil_append, List.length, List.getElem?_cons_zero, List.getElem?_cons_succ, Nat.reduceAdd, Nat.reduceMul, Nat.zero_add, Nat.add_zero, Nat.mul_one, Nat.zero_mul, List.drop, List.take, List.toList_toArray, Value.cells, Int.reduceToNat, Int.toNat_natCast, List.getD, Option.getD, Option.map, flat, flat1, scal, setAll, Int.reduceAdd, if_true, ↓reduceIte])))
      | (refine AD.nil ?_; (conv => (arg 4; simp only [List.drop_succ_cons, List.drop_zero, List.drop_nil])); (conv => (arg 5; try simp only [T.put, T.ev, putAt, setsT, newBlks, fillL, List.map, List.set, List.append, List.cons_append, List.nil_append, List.length, List.getElem?_cons_zero, List.getElem?_cons_succ, Nat.reduceAdd, Nat.reduceMul, Nat.zero_add, Nat.add_zero, Nat.mul_one, Nat.zero_mul, List.drop, List.take, List.toList_toArray, Value.cells, Int.reduceToNat, Int.toNat_natCast, List.getD, Option.getD, Option.map, flat, flat1, scal, setAll, Int.reduceAdd, if_true, ↓reduceIte])); (conv => (arg 6; try simp only [T.put, T.ev, putAt, setsT, newBlks, fillL, List.map, List.set, List.append, List.cons_append, List.nil_append, List.length, List.getElem?_cons_zero, List.getElem?_cons_succ, Nat.reduceAdd, Nat.reduceMul, Nat.zero_add, Nat.add_zero, Nat.mul_one, Nat.zero_mul, List.drop, List.take, List.toList_toArray, Value.cells, Int.reduceToNat, Int.toNat_natCast, List.getD, Option.getD, Option.map, flat, flat1, scal, setAll, Int.reduceAdd, if_true, ↓reduceIte]))))
    | ((with_reducible refine FinP.on ?_); (first | refine FinP.ret (.tmp (by conv => lhs; whnf) .nil) ?_ rfl | refine FinP.end (.tmp (by conv => lhs; whnf) .nil) ?_ rfl); (try simp only [pack, List.drop, List.take]); all_goals (simp_all)))
section
variable (u e a b u' e' a' b' c c' n1 d1 n2 d2 l0 h0 l1 h1 : Int) (h : siEE u e a b u' e' a' b' = 0)
  (HU : ∀ m, PCalls Try.prog 29 [siV u e a b u' e' a' b'] m (.tuple #[.agg #[.int .i64 n1, .int .i64 d1, .int .i64 n2, .int .i64 d2], .int .i64 c]))
  (RU : ∀ m, PCalls Try.prog 31 [siV u e a b u' e' a' b'] m (.tuple #[.agg #[.int .i64 n1, .int .i64 d1, .int .i64 n2, .int .i64 d2], .int .i64 c]))
  (HB : ∀ m, PCalls Try.prog 27 [siV u e a b u' e' a' b'] m (.tuple #[.agg #[.int .i64 l0, .int .i64 h0, .int .i64 l1, .int .i64 h1], .int .i64 c']))
  (RB_ : ∀ m, PCalls Try.prog 32 [siV u e a b u' e' a' b'] m (.tuple #[.agg #[.int .i64 l0, .int .i64 h0, .int .i64 l1, .int .i64 h1], .int .i64 c']))
include h HU RU HB RB_
theorem Tracks_n (hc : c ≠ 0) : PCalls Try.prog 5 [siV u e a b u' e' a' b'] [] (.bool true) := by
  have HA := awake_q
  have H3 := rCheckSights_q u e a b u' e' a' b'
  have H4 := CheckSights_q u e a b u' e' a' b'
  rw [h] at H3 H4
  refine PCalls.enter (t := [siV u e a b u' e' a' b', undef, undef, undef, undef, undef, undef, undef, undef, undef, undef, undef, undef, undef, undef, undef, undef, undef, undef, undef, undef, undef, undef, undef, undef, undef, undef, undef, undef, undef, undef, undef, undef, undef, undef, undef, undef, undef, undef, undef, undef, undef, undef, undef, undef, undef, undef, undef, undef, undef, undef, undef, undef, undef, undef, undef, undef, undef, undef, undef, undef, undef, undef, undef, undef, undef, undef, undef, undef, undef, undef, undef, undef, undef, undef, undef, undef, undef, undef, undef, undef, undef, undef, undef, undef, undef, undef, undef, undef, undef, undef, undef, undef, undef, undef, undef, undef, undef, undef, undef, undef, undef, undef, undef, undef, undef, undef, undef, undef, undef, undef, undef, undef, undef, undef, undef]) Try.func5 rfl (ro_nil) rfl fun E => ?_
  repeat' (first
    | with_reducible refine Then.n ?_
    | with_reducible refine Then.r ?_
    | with_reducible refine Then.x ?_
    | with_reducible refine InB.n ?_
    | with_reducible refine InB.r ?_
    | with_reducible refine InB.hit ?_
    | with_reducible refine InB.miss (by decide) ?_
    | ((with_reducible refine AL.on ?_); first
      | (refine AL.gd rfl ?_; first | (refine AL.gskip rfl rfl ?_; (conv => (arg 5; try simp only [T.put, T.ev, putAt, setsT, newBlks, fillL, List.map, List.set, List.append, List.cons_append, List.nil_append, List.length, List.getElem?_cons_zero, List.getElem?_cons_succ, Nat.reduceAdd, Nat.reduceMul, Nat.zero_add, Nat.add_zero, Nat.mul_one, Nat.zero_mul, List.drop, List.take, List.toList_toArray, Value.cells, Int.reduceToNat, Int.toNat_natCast, List.getD, Option.getD, Option.map, flat, flat1, scal, setAll, Int.reduceAdd, if_true, ↓reduceIte]))) | (refine AL.gs1 rfl rfl (fun hc => ?_) (fun hc => ?_) <;> (try simp only [decide_eq_true_eq, decide_eq_false_iff_not, Bool.not_true, Bool.not_false, Bool.not_eq_true', Bool.not_eq_false', Int.not_lt, Int.not_le, Classical.not_not, ne_eq] at hc) <;> first | (exfalso; first | contradiction | (first | omega | (simp_all; done)); done) | (conv => (arg 5; try simp only [T.put, T.ev, putAt, setsT, newBlks, fillL, List.map, List.set, List.append, List.cons_append, List.nil_append, List.length, List.getElem?_cons_zero, List.getElem?_cons_succ, Nat.reduceAdd, Nat.reduceMul, Nat.zero_add, Nat.add_zero, Nat.mul_one, Nat.zero_mul, List.drop, List.take, List.toList_toArray, Value.cells, Int.reduceToNat, Int.toNat_natCast, List.getD, Option.getD, Option.map, flat, flat1, scal, setAll, Int.reduceAdd, if_true, ↓reduceIte]))) | (refine AL.gs0 rfl rfl (fun hc => ?_) (fun hc => ?_) <;> (try simp only [decide_eq_true_eq, decide_eq_false_iff_not, Bool.not_true, Bool.not_false, Bool.not_eq_true', Bool.not_eq_false', Int.not_lt, Int.not_le, Classical.not_not, ne_eq] at hc) <;> first | (exfalso; first | contradiction | (first | omega | (simp_all; done)); done) | (conv => (arg 5; try simp only [T.put, T.ev, putAt, setsT, newBlks, fillL, List.map, List.set, List.append, List.cons_append, List.nil_append, List.length, List.getElem?_cons_zero, List.getElem?_cons_succ, Nat.reduceAdd, Nat.reduceMul, Nat.zero_add, Nat.add_zero, Nat.mul_one, Nat.zero_mul, List.drop, List.take, List.toList_toArray, Value.cells, Int.reduceToNat, Int.toNat_natCast, List.getD, Option.getD, Option.map, flat, flat1, scal, setAll, Int.reduceAdd, if_true, ↓reduceIte]))))
      | ((first | ((with_reducible refine AL.k_move ?_); first | (refine AL.q rfl (OQ.move (by conv => lhs; whnf)) ?_)) | ((with_reducible refine AL.k_load ?_); first | refine AL.q rfl (OQ.loadN (ty := 48) (n := 8) rfl (by kernel_rfl) (by kernel_rfl) rfl) ?_ | refine AL.q rfl (OQ.loadN (ty := 34) (n := 4) rfl (by kernel_rfl) (by kernel_rfl) rfl) ?_ | refine AL.q rfl (OQ.loadN (ty := 54) (n := 4) rfl (by kernel_rfl) (by kernel_rfl) rfl) ?_) | ((with_reducible refine AL.k_binOp ?_); first | refine AL.q rfl (OQ.neq rfl rfl) ?_ | refine AL.q rfl (OQ.eql rfl rfl) ?_ | refine AL.q rfl (eql_t34 rfl rfl) ?_ | refine AL.q rfl (eql_t54 rfl rfl) ?_ | refine AL.q rfl (nel_t34 rfl rfl) ?_ | refine AL.q rfl (nel_t54 rfl rfl) ?_ | refine AL.q rfl (OQ.lss rfl rfl) ?_ | refine AL.q rfl (OQ.addi rfl rfl (by omega)) ?_ | refine AL.q rfl (OQ.add rfl rfl) ?_) | ((with_reducible refine AL.k_assign ?_); first | (refine AL.q rfl (OQ.assign (by conv => lhs; whnf)) ?_)) | ((with_reducible refine AL.k_extract ?_); first | refine AL.q rfl (OQ.extract rfl rfl) ?_) | ((with_reducible refine AL.k_pick ?_); first | (refine AL.q rfl (OQ.pickT rfl (by with_reducible rfl) (by conv => lhs; whnf)) ?_) | (refine AL.q rfl (OQ.pickF rfl (by with_reducible rfl) (by conv => lhs; whnf)) ?_)) | ((with_reducible refine AL.k_unOp ?_); first | refine AL.q rfl (OQ.not rfl) ?_)); (conv => (arg 5; try simp only [T.put, T.ev, putAt, setsT, newBlks, fillL, List.map, List.set, List.append, List.cons_append, List.nil_append, List.length, List.getElem?_cons_zero, List.getElem?_cons_succ, Nat.reduceAdd, Nat.reduceMul, Nat.zero_add, Nat.add_zero, Nat.mul_one, Nat.zero_mul, List.drop, List.take, List.toList_toArray, Value.cells, Int.reduceToNat, Int.toNat_natCast, List.getD, Option.getD, Option.map, flat, flat1, scal, setAll, Int.reduceAdd, if_true, ↓reduceIte])))
      | ((first | ((with_reducible refine AL.k_call ?_); first | refine AL.pcall (g := 15) rfl (by kernel_rfl) rfl (HA _) ?_ | refine AL.pcall (g := 29) rfl (by kernel_rfl) rfl (HU _) ?_ | refine AL.pcall (g := 27) rfl (by kernel_rfl) rfl (HB _) ?_ | refine AL.pcall (g := 23) rfl (by kernel_rfl) rfl (H3 _) ?_ | refine AL.pcall (g := 30) rfl (by kernel_rfl) rfl (H4 _) ?_ | refine AL.pcall (g := 31) rfl (by kernel_rfl) rfl (RU _) ?_ | refine AL.pcall (g := 32) rfl (by kernel_rfl) rfl (RB_ _) ?_) | ((with_reducible refine AL.k_build ?_); first | refine AL.q rfl (OQ.buildA (ty := 34) (zs := [.int .i64 0, .int .i64 0, .int .i64 0, .int .i64 0]) (n := 2) (k := 2) (g := true) (by kernel_rfl) rfl (by kernel_rfl) rfl rfl rfl) ?_ | refine AL.q rfl (OQ.buildA (ty := 54) (zs := [.int .i64 0, .int .i64 0, .int .i64 0, .int .i64 0]) (n := 2) (k := 2) (g := true) (by kernel_rfl) rfl (by kernel_rfl) rfl rfl rfl) ?_)); (conv => (arg 5; try simp only [T.put, T.ev, putAt, setsT, newBlks, fillL, List.map, List.set, List.append, List.cons_append, List.nil_append, List.length, List.getElem?_cons_zero, List.getElem?_cons_succ, Nat.reduceAdd, Nat.reduceMul, Nat.zero_add, Nat.add_zero, Nat.mul_one, Nat.zero_mul, List.drop, List.take, List.toList_toArray, Value.cells, Int.reduceToNat, Int.toNat_natCast, List.getD, Option.getD, Option.map, flat, flat1, scal, setAll, Int.reduceAdd, if_true, ↓reduceIte])))
      | ((first | ((with_reducible refine AL.k_alloc ?_); first | refine AL.w rfl (OW.alloc (ty := 34) (z := [.int .i64 0, .int .i64 0, .int .i64 0, .int .i64 0]) (by kernel_rfl) rfl) ?_ | refine AL.w rfl (OW.alloc (ty := 54) (z := [.int .i64 0, .int .i64 0, .int .i64 0, .int .i64 0]) (by kernel_rfl) rfl) ?_) | ((with_reducible refine AL.k_store ?_); first | (refine AL.w rfl (OW.store (ty := 34) (n := 4) rfl (by conv => lhs; whnf) rfl rfl (by kernel_rfl) rfl rfl (by decide) rfl (Nat.le_of_ble_eq_true rfl) (by intro r h; cases h)) ?_) | (refine AL.w rfl (OW.store (ty := 54) (n := 4) rfl (by conv => lhs; whnf) rfl rfl (by kernel_rfl) rfl rfl (by decide) rfl (Nat.le_of_ble_eq_true rfl) (by intro r h; cases h)) ?_)) | ((with_reducible refine AL.k_box ?_); first | (refine AL.w rfl (OW.box (by conv => lhs; whnf) (by intro r h; cases h)) ?_))); (conv => (arg 5; try simp only [T.put, T.ev, putAt, setsT, newBlks, fillL, List.map, List.set, List.append, List.cons_append, List.nil_append, List.length, List.getElem?_cons_zero, List.getElem?_cons_succ, Nat.reduceAdd, Nat.reduceMul, Nat.zero_add, Nat.add_zero, Nat.mul_one, Nat.zero_mul, List.drop, List.take, List.toList_toArray, Value.cells, Int.reduceToNat, Int.toNat_natCast, List.getD, Option.getD, Option.map, flat, flat1, scal, setAll, Int.reduceAdd, if_true, ↓reduceIte])); (conv => (arg 6; try simp only [T.put, T.ev, putAt, setsT, newBlks, fillL, List.map, List.set, List.append, List.cons_append, List.nil_append, List.length, List.getElem?_cons_zero, List.getElem?_cons_succ, Nat.reduceAdd, Nat.reduceMul, Nat.zero_add, Nat.add_zero, Nat.mul_one, Nat.zero_mul, List.drop, List.take, List.toList_toArray, Value.cells, Int.reduceToNat, Int.toNat_natCast, List.getD, Option.getD, Option.map, flat, flat1, scal, setAll, Int.reduceAdd, if_true, ↓reduceIte])))
      | (refine AL.bs rfl (fun hc => ?_) (fun hc => ?_) <;> (fail_if_success (with_reducible exact lit_no hc)) <;> (try simp only [decide_eq_true_eq, decide_eq_false_iff_not, Bool.not_true, Bool.not_false, Bool.not_eq_true', Bool.not_eq_false', Int.not_lt, Int.not_le, Classical.not_not, ne_eq] at hc) <;> first | (exfalso; first | contradiction | (first | omega | (simp_all; done)); done) | (conv => (arg 5; try simp only [T.put, T.ev, putAt, setsT, newBlks, fillL, List.map, List.set, List.append, List.cons_append, List.nil_append, List.length, List.getElem?_cons_zero, List.getElem?_cons_succ, Nat.reduceAdd, Nat.reduceMul, Nat.zero_add, Nat.add_zero, Nat.mul_one, Nat.zero_mul, List.drop, List.take, List.toList_toArray, Value.cells, Int.reduceToNat, Int.toNat_natCast, List.getD, Option.getD, Option.map, flat, flat1, scal, setAll, Int.reduceAdd, if_true, ↓reduceIte])))
      | refine AL.nil ?_)
    | ((with_reducible refine AW.on ?_); first
      | refine AW.seq ?_
      | refine AW.skip ?_
      | refine AW.exit ?_
      | refine AW.ret ?_
      | (refine AW.block (id := 0) ?_; refine AW.unroll 1 ?_)
      | refine AW.block ?_
      | (refine AW.draw (id := 17) 30 #[0, 1, 3, 7, 0, 16, 48, 112, 0, 256, 768, 1792, 4095, 8191, 16383, 32767, 65535, 131071, 262143, 32767, 557055, 1605631, 3702783, 32767, 8421375, 25198591, 58753023, 134217727, 268435455, 536870911] (by kernel_rfl) (by kernel_rfl) ?_; (conv => (arg 8; simp only [List.take_succ_cons, List.take_zero])))
      | (refine AW.region (id := 2) ?_; exfalso; first | omega | (simp_all; done); done)
      | (refine AW.region (id := 7) ?_; exfalso; first | omega | (simp_all; done); done)
      | (refine AW.region (id := 9) ?_; exfalso; first | omega | (simp_all; done); done)
      | (refine AW.region (id := 13) ?_; exfalso; first | omega | (simp_all; done); done)
      | refine AW.region ?_
      | (refine AW.conds rfl (fun hc => ?_) (fun hc => ?_) <;> (try simp only [decide_eq_true_eq, decide_eq_false_iff_not, Bool.not_true, Bool.not_false, Bool.not_eq_true', Bool.not_eq_false', Int.not_lt, Int.not_le, Classical.not_not, ne_eq] at hc) <;> first | (exfalso; first | contradiction | (first | omega | (simp_all; done)); done) | skip))
    | ((with_reducible refine AD.on ?_); first
      | (refine AD.gskip rfl rfl rfl ?_; (conv => (arg 10; try simp only [T.put, T.ev, putAt, setsT, newBlks, fillL, List.map, List.set, List.append, List.cons_append, List.nil_append, List.length, List.getElem?_cons_zero, List.getElem?_cons_succ, Nat.reduceAdd, Nat.reduceMul, Nat.zero_add, Nat.add_zero, Nat.mul_one, Nat.zero_mul, List.drop, List.take, List.toList_toArray, Value.cells, Int.reduceToNat, Int.toNat_natCast, List.getD, Option.getD, Option.map, flat, flat1, scal, setAll, Int.reduceAdd, if_true, ↓reduceIte])))
      | ((first | refine AD.gn1 rfl rfl (by with_reducible rfl) rfl ?_ | refine AD.gn0 rfl rfl (by with_reducible rfl) rfl ?_); (conv => (arg 10; try simp only [T.put, T.ev, putAt, setsT, newBlks, fillL, List.map, List.set, List.append, List.cons_append, List.nil_append, List.length, List.getElem?_cons_zero, List.getElem?_cons_succ, Nat.reduceAdd, Nat.reduceMul, Nat.zero_add, Nat.add_zero, Nat.mul_one, Nat.zero_mul, List.drop, List.take, List.toList_toArray, Value.cells, Int.reduceToNat, Int.toNat_natCast, List.getD, Option.getD, Option.map, flat, flat1, scal, setAll, Int.reduceAdd, if_true, ↓reduceIte])))
      | ((first | ((with_reducible refine AD.k_move ?_); first | (refine AD.q rfl (OQ.move (by conv => lhs; whnf)) rfl rfl rfl ?_) | (refine AD.qc rfl rfl (by with_reducible rfl) (OQ.move (by conv => lhs; whnf)) rfl rfl rfl ?_)) | ((with_reducible refine AD.k_load ?_); first | (refine AD.q rfl (OQ.load1 (ty := 3) rfl (by kernel_rfl) (by conv => lhs; whnf)) rfl rfl rfl ?_) | (refine AD.qc rfl rfl (by with_reducible rfl) (OQ.load1 (ty := 3) rfl (by kernel_rfl) (by conv => lhs; whnf)) rfl rfl rfl ?_)) | ((with_reducible refine AD.k_binOp ?_); first | refine AD.q rfl (OQ.lss rfl rfl) rfl rfl rfl ?_ | refine AD.qc rfl rfl (by with_reducible rfl) (OQ.gtr rfl rfl) rfl rfl rfl ?_) | ((with_reducible refine AD.k_pick ?_); first | (refine AD.q rfl (OQ.pickT rfl (by with_reducible rfl) (by conv => lhs; whnf)) rfl rfl rfl ?_) | (refine AD.q rfl (OQ.pickF rfl (by with_reducible rfl) (by conv => lhs; whnf)) rfl rfl rfl ?_)) | ((with_reducible refine AD.k_indexAddr ?_); first | refine AD.q rfl (OQ.idxPtr (ty := 34) (n := 2) (l := 2) (g := true) rfl rfl (by kernel_rfl) (by omega) (by omega)) rfl rfl rfl ?_ | refine AD.q rfl (OQ.idxPtr (ty := 54) (n := 2) (l := 2) (g := true) rfl rfl (by kernel_rfl) (by omega) (by omega)) rfl rfl rfl ?_ | refine AD.qc rfl rfl (by with_reducible rfl) (OQ.idxPtr (ty := 34) (n := 2) (l := 2) (g := true) rfl rfl (by kernel_rfl) (by omega) (by omega)) rfl rfl rfl ?_ | refine AD.qc rfl rfl (by with_reducible rfl) (OQ.idxPtr (ty := 54) (n := 2) (l := 2) (g := true) rfl rfl (by kernel_rfl) (by omega) (by omega)) rfl rfl rfl ?_) | ((with_reducible refine AD.k_fieldAddr ?_); first | refine AD.q rfl (OQ.fieldA (ty := 28) (i := 0) (n := 1) (off := 0) (g := false) rfl (by kernel_rfl) (by decide)) rfl rfl rfl ?_ | refine AD.q rfl (OQ.fieldA (ty := 28) (i := 1) (n := 1) (off := 1) (g := false) rfl (by kernel_rfl) (by decide)) rfl rfl rfl ?_ | refine AD.q rfl (OQ.fieldA (ty := 44) (i := 0) (n := 1) (off := 0) (g := false) rfl (by kernel_rfl) (by decide)) rfl rfl rfl ?_ | refine AD.qc rfl rfl (by with_reducible rfl) (OQ.fieldA (ty := 28) (i := 0) (n := 1) (off := 0) (g := false) rfl (by kernel_rfl) (by decide)) rfl rfl rfl ?_ | refine AD.qc rfl rfl (by with_reducible rfl) (OQ.fieldA (ty := 28) (i := 1) (n := 1) (off := 1) (g := false) rfl (by kernel_rfl) (by decide)) rfl rfl rfl ?_ | refine AD.qc rfl rfl (by with_reducible rfl) (OQ.fieldA (ty := 44) (i := 1) (n := 1) (off := 1) (g := false) rfl (by kernel_rfl) (by decide)) rfl rfl rfl ?_)); (conv => (arg 10; try simp only [T.put, T.ev, putAt, setsT, newBlks, fillL, List.map, List.set, List.append, List.cons_append, List.nil_append, List.length, List.getElem?_cons_zero, List.getElem?_cons_succ, Nat.reduceAdd, Nat.reduceMul, Nat.zero_add, Nat.add_zero, Nat.mul_one, Nat.zero_mul, List.drop, List.take, List.toList_toArray, Value.cells, Int.reduceToNat, Int.toNat_natCast, List.getD, Option.getD, Option.map, flat, flat1, scal, setAll, Int.reduceAdd, if_true, ↓reduceIte])))
      | (refine AD.bs rfl (fun hc => ?_) (fun hc => ?_) <;> (fail_if_success (with_reducible exact lit_no hc)) <;> (try simp only [decide_eq_true_eq, decide_eq_false_iff_not, Bool.not_true, Bool.not_false, Bool.not_eq_true', Bool.not_eq_false', Int.not_lt, Int.not_le, Classical.not_not, ne_eq] at hc) <;> first | (exfalso; first | contradiction | (first | omega | (simp_all; done)); done) | (conv => (arg 10; try simp only [T.put, T.ev, putAt, setsT, newBlks, fillL, List.map, List.set, List.append, List.cons_append, List.nil_append, List.length, List.getElem?_cons_zero, List.getElem?_cons_succ, Nat.reduceAdd, Nat.reduceMul, Nat.zero_add, Nat.add_zero, Nat.mul_one, Nat.zero_mul, List.drop, List.take, List.toList_toArray, Value.cells, Int.reduceToNat, Int.toNat_natCast, List.getD, Option.getD, Option.map, flat, flat1, scal, setAll, Int.reduceAdd, if_true, ↓reduceIte])))
      | (refine AD.gs1 rfl rfl (fun hc => ?_) (fun hc => ?_) <;> (fail_if_success (with_reducible exact lit_no hc)) <;> (try simp only [decide_eq_true_eq, decide_eq_false_iff_not, Bool.not_true, Bool.not_false, Bool.not_eq_true', Bool.not_eq_false', Int.not_lt, Int.not_le, Classical.not_not, ne_eq] at hc) <;> first | (exfalso; first | contradiction | (first | omega | (simp_all; done)); done) | (conv => (arg 10; try simp only [T.put, T.ev, putAt, setsT, newBlks, fillL, List.map, List.set, List.append, List.cons_append, List.nil_append, List.length, List.getElem?_cons_zero, List.getElem?_cons_succ, Nat.reduceAdd, Nat.reduceMul, Nat.zero_add, Nat.add_zero, Nat.mul_one, Nat.zero_mul, List.drop, List.take, List.toList_toArray, Value.cells, Int.reduceToNat, Int.toNat_natCast, List.getD, Option.getD, Option.map, flat, flat1, scal, setAll, Int.reduceAdd, if_true, ↓reduceIte])))
      | (refine AD.gs0 rfl rfl (fun hc => ?_) (fun hc => ?_) <;> (fail_if_success (with_reducible exact lit_no hc)) <;> (try simp only [decide_eq_true_eq, decide_eq_false_iff_not, Bool.not_true, Bool.not_false, Bool.not_eq_true', Bool.not_eq_false', Int.not_lt, Int.not_le, Classical.not_not, ne_eq] at hc) <;> first | (exfalso; first | contradiction | (first | omega | (simp_all; done)); done) | (conv => (arg 10; try simp only [T.put, T.ev, putAt, setsT, newBlks, fillL, List.map, List.set, List.append, List.cons_append, List.nil_append, List.length, List.getElem?_cons_zero, List.getElem?_cons_succ, Nat.reduceAdd, Nat.reduceMul, Nat.zero_add, Nat.add_zero, Nat.mul_one, Nat.zero_mul, List.drop, List.take, List.toList_toArray, Value.cells, Int.reduceToNat, Int.toNat_natCast, List.getD, Option.getD, Option.map, flat, flat1, scal, setAll, Int.reduceAdd, if_true, ↓reduceIte])))
      | (refine AD.nil ?_; (conv => (arg 4; simp only [List.drop_succ_cons, List.drop_zero, List.drop_nil])); (conv => (arg 5; try simp only [T.put, T.ev, putAt, setsT, newBlks, fillL, List.map, List.set, List.append, List.cons_append, List.nil_append, List.length, List.getElem?_cons_zero, List.getElem?_cons_succ, Nat.reduceAdd, Nat.reduceMul, Nat.zero_add, Nat.add_zero, Nat.mul_one, Nat.zero_mul, List.drop, List.take, List.toList_toArray, Value.cells, Int.reduceToNat, Int.toNat_natCast, List.getD, Option.getD, Option.map, flat, flat1, scal, setAll, Int.reduceAdd, if_true, ↓reduceIte])); (conv => (arg 6; try simp only [T.put, T.ev, putAt, setsT, newBlks, fillL, List.map, List.set, List.append, List.cons_append, List.nil_append, List.length, List.getElem?_cons_zero, List.getElem?_cons_succ, Nat.reduceAdd, Nat.reduceMul, Nat.zero_add, Nat.add_zero, Nat.mul_one, Nat.zero_mul, List.drop, List.take, List.toList_toArray, Value.cells, Int.reduceToNat, Int.toNat_natCast, List.getD, Option.getD, Option.map, flat, flat1, scal, setAll, Int.reduceAdd, if_true, ↓reduceIte]))))
    | with_reducible refine AR.s ?_
    | ((with_reducible refine AR.out ?_); first | omega | (simp_all; done); done)
    | ((with_reducible refine FinP.on ?_); (first | refine FinP.ret (.tmp (by conv => lhs; whnf) .nil) ?_ rfl | refine FinP.end (.tmp (by conv => lhs; whnf) .nil) ?_ rfl); (try simp only [pack, List.drop, List.take]); all_goals (rfl)))
theorem Tracks_y (hc : c = 0) (b1 : 0 < d1 ∧ d1 ≤ 1000000000) (b2 : 0 < d2 ∧ d2 ≤ 1000000000) (b3 : -1000000000 ≤ n1 ∧ n1 ≤ 1000000000) (b4 : -1000000000 ≤ n2 ∧ n2 ≤ 1000000000) (b5 : -9000000000000000000 ≤ l0 ∧ l0 ≤ 9000000000000000000) (b6 : -9000000000000000000 ≤ h0 ∧ h0 ≤ 9000000000000000000) (b7 : -9000000000000000000 ≤ l1 ∧ l1 ≤ 9000000000000000000) (b8 : -9000000000000000000 ≤ h1 ∧ h1 ≤ 9000000000000000000)
    (q1 : ¬ cmpF n1 d1 l0 < 0) (q2 : ¬ 0 < cmpF n1 d1 h0) (q3 : ¬ cmpF n2 d2 l1 < 0) (q4 : ¬ 0 < cmpF n2 d2 h1) : PCalls Try.prog 5 [siV u e a b u' e' a' b'] [] (.bool true) := by
  subst hc
  have HA := awake_q
  have H3 := rCheckSights_q u e a b u' e' a' b'
  have H4 := CheckSights_q u e a b u' e' a' b'
  have C1 := Compare_q n1 d1 l0 b1 (by omega) b5
  have C2 := Compare_q n1 d1 h0 b1 (by omega) b6
  have C3 := Compare_q n2 d2 l1 b2 (by omega) b7
  have C4 := Compare_q n2 d2 h1 b2 (by omega) b8
  rw [h] at H3 H4
  refine PCalls.enter (t := [siV u e a b u' e' a' b', undef, undef, undef, undef, undef, undef, undef, undef, undef, undef, undef, undef, undef, undef, undef, undef, undef, undef, undef, undef, undef, undef, undef, undef, undef, undef, undef, undef, undef, undef, undef, undef, undef, undef, undef, undef, undef, undef, undef, undef, undef, undef, undef, undef, undef, undef, undef, undef, undef, undef, undef, undef, undef, undef, undef, undef, undef, undef, undef, undef, undef, undef, undef, undef, undef, undef, undef, undef, undef, undef, undef, undef, undef, undef, undef, undef, undef, undef, undef, undef, undef, undef, undef, undef, undef, undef, undef, undef, undef, undef, undef, undef, undef, undef, undef, undef, undef, undef, undef, undef, undef, undef, undef, undef, undef, undef, undef, undef, undef, undef, undef, undef, undef, undef, undef]) Try.func5 rfl (ro_nil) rfl fun E => ?_
  repeat' (first
    | with_reducible refine Then.n ?_
    | with_reducible refine Then.r ?_
    | with_reducible refine Then.x ?_
    | with_reducible refine InB.n ?_
    | with_reducible refine InB.r ?_
    | with_reducible refine InB.hit ?_
    | with_reducible refine InB.miss (by decide) ?_
    | ((with_reducible refine AL.on ?_); first
      | (refine AL.gd rfl ?_; first | (refine AL.gskip rfl rfl ?_; (conv => (arg 5; try simp only [T.put, T.ev, putAt, setsT, newBlks, fillL, List.map, List.set, List.append, List.cons_append, List.nil_append, List.length, List.getElem?_cons_zero, List.getElem?_cons_succ, Nat.reduceAdd, Nat.reduceMul, Nat.zero_add, Nat.add_zero, Nat.mul_one, Nat.zero_mul, List.drop, List.take, List.toList_toArray, Value.cells, Int.reduceToNat, Int.toNat_natCast, List.getD, Option.getD, Option.map, flat, flat1, scal, setAll, Int.reduceAdd, if_true, ↓reduceIte]))) | (refine AL.gs1 rfl rfl (fun hc => ?_) (fun hc => ?_) <;> (try simp only [decide_eq_true_eq, decide_eq_false_iff_not, Bool.not_true, Bool.not_false, Bool.not_eq_true', Bool.not_eq_false', Int.not_lt, Int.not_le, Classical.not_not, ne_eq] at hc) <;> first | (exfalso; first | contradiction | (first | omega | (simp_all; done)); done) | (conv => (arg 5; try simp only [T.put, T.ev, putAt, setsT, newBlks, fillL, List.map, List.set, List.append, List.cons_append, List.nil_append, List.length, List.getElem?_cons_zero, List.getElem?_cons_succ, Nat.reduceAdd, Nat.reduceMul, Nat.zero_add, Nat.add_zero, Nat.mul_one, Nat.zero_mul, List.drop, List.take, List.toList_toArray, Value.cells, Int.reduceToNat, Int.toNat_natCast, List.getD, Option.getD, Option.map, flat, flat1, scal, setAll, Int.reduceAdd, if_true, ↓reduceIte]))) | (refine AL.gs0 rfl rfl (fun hc => ?_) (fun hc => ?_) <;> (try simp only [decide_eq_true_eq, decide_eq_false_iff_not, Bool.not_true, Bool.not_false, Bool.not_eq_true', Bool.not_eq_false', Int.not_lt, Int.not_le, Classical.not_not, ne_eq] at hc) <;> first | (exfalso; first | contradiction | (first | omega | (simp_all; done)); done) | (conv => (arg 5; try simp only [T.put, T.ev, putAt, setsT, newBlks, fillL, List.map, List.set, List.append, List.cons_append, List.nil_append, List.length, List.getElem?_cons_zero, List.getElem?_cons_succ, Nat.reduceAdd, Nat.reduceMul, Nat.zero_add, Nat.add_zero, Nat.mul_one, Nat.zero_mul, List.drop, List.take, List.toList_toArray, Value.cells, Int.reduceToNat, Int.toNat_natCast, List.getD, Option.getD, Option.map, flat, flat1, scal, setAll, Int.reduceAdd, if_true, ↓reduceIte]))))
      | ((first | ((with_reducible refine AL.k_move ?_); first | (refine AL.q rfl (OQ.move (by conv => lhs; whnf)) ?_)) | ((with_reducible refine AL.k_load ?_); first | refine AL.q rfl (OQ.loadN (ty := 48) (n := 8) rfl (by kernel_rfl) (by kernel_rfl) rfl) ?_ | refine AL.q rfl (OQ.loadN (ty := 34) (n := 4) rfl (by kernel_rfl) (by kernel_rfl) rfl) ?_ | refine AL.q rfl (OQ.loadN (ty := 54) (n := 4) rfl (by kernel_rfl) (by kernel_rfl) rfl) ?_) | ((with_reducible refine AL.k_binOp ?_); first | refine AL.q rfl (OQ.neq rfl rfl) ?_ | refine AL.q rfl (OQ.eql rfl rfl) ?_ | refine AL.q rfl (eql_t34 rfl rfl) ?_ | refine AL.q rfl (eql_t54 rfl rfl) ?_ | refine AL.q rfl (nel_t34 rfl rfl) ?_ | refine AL.q rfl (nel_t54 rfl rfl) ?_ | refine AL.q rfl (OQ.lss rfl rfl) ?_ | refine AL.q rfl (OQ.addi rfl rfl (by omega)) ?_ | refine AL.q rfl (OQ.add rfl rfl) ?_) | ((with_reducible refine AL.k_assign ?_); first | (refine AL.q rfl (OQ.assign (by conv => lhs; whnf)) ?_)) | ((with_reducible refine AL.k_extract ?_); first | refine AL.q rfl (OQ.extract rfl rfl) ?_) | ((with_reducible refine AL.k_pick ?_); first | (refine AL.q rfl (OQ.pickT rfl (by with_reducible rfl) (by conv => lhs; whnf)) ?_) | (refine AL.q rfl (OQ.pickF rfl (by with_reducible rfl) (by conv => lhs; whnf)) ?_)) | ((with_reducible refine AL.k_unOp ?_); first | refine AL.q rfl (OQ.not rfl) ?_)); (conv => (arg 5; try simp only [T.put, T.ev, putAt, setsT, newBlks, fillL, List.map, List.set, List.append, List.cons_append, List.nil_append, List.length, List.getElem?_cons_zero, List.getElem?_cons_succ, Nat.reduceAdd, Nat.reduceMul, Nat.zero_add, Nat.add_zero, Nat.mul_one, Nat.zero_mul, List.drop, List.take, List.toList_toArray, Value.cells, Int.reduceToNat, Int.toNat_natCast, List.getD, Option.getD, Option.map, flat, flat1, scal, setAll, Int.reduceAdd, if_true, ↓reduceIte])))
      | ((first | ((with_reducible refine AL.k_call ?_); first | refine AL.pcall (g := 15) rfl (by kernel_rfl) rfl (HA _) ?_ | refine AL.pcall (g := 29) rfl (by kernel_rfl) rfl (HU _) ?_ | refine AL.pcall (g := 27) rfl (by kernel_rfl) rfl (HB _) ?_ | refine AL.pcall (g := 23) rfl (by kernel_rfl) rfl (H3 _) ?_ | refine AL.pcall (g := 30) rfl (by kernel_rfl) rfl (H4 _) ?_ | refine AL.pcall (g := 31) rfl (by kernel_rfl) rfl (RU _) ?_ | refine AL.pcall (g := 32) rfl (by kernel_rfl) rfl (RB_ _) ?_) | ((with_reducible refine AL.k_build ?_); first | refine AL.q rfl (OQ.buildA (ty := 34) (zs := [.int .i64 0, .int .i64 0, .int .i64 0, .int .i64 0]) (n := 2) (k := 2) (g := true) (by kernel_rfl) rfl (by kernel_rfl) rfl rfl rfl) ?_ | refine AL.q rfl (OQ.buildA (ty := 54) (zs := [.int .i64 0, .int .i64 0, .int .i64 0, .int .i64 0]) (n := 2) (k := 2) (g := true) (by kernel_rfl) rfl (by kernel_rfl) rfl rfl rfl) ?_)); (conv => (arg 5; try simp only [T.put, T.ev, putAt, setsT, newBlks, fillL, List.map, List.set, List.append, List.cons_append, List.nil_append, List.length, List.getElem?_cons_zero, List.getElem?_cons_succ, Nat.reduceAdd, Nat.reduceMul, Nat.zero_add, Nat.add_zero, Nat.mul_one, Nat.zero_mul, List.drop, List.take, List.toList_toArray, Value.cells, Int.reduceToNat, Int.toNat_natCast, List.getD, Option.getD, Option.map, flat, flat1, scal, setAll, Int.reduceAdd, if_true, ↓reduceIte])))
      | ((first | ((with_reducible refine AL.k_alloc ?_); first | refine AL.w rfl (OW.alloc (ty := 34) (z := [.int .i64 0, .int .i64 0, .int .i64 0, .int .i64 0]) (by kernel_rfl) rfl) ?_ | refine AL.w rfl (OW.alloc (ty := 54) (z := [.int .i64 0, .int .i64 0, .int .i64 0, .int .i64 0]) (by kernel_rfl) rfl) ?_) | ((with_reducible refine AL.k_store ?_); first | (refine AL.w rfl (OW.store (ty := 34) (n := 4) rfl (by conv => lhs; whnf) rfl rfl (by kernel_rfl) rfl rfl (by decide) rfl (Nat.le_of_ble_eq_true rfl) (by intro r h; cases h)) ?_) | (refine AL.w rfl (OW.store (ty := 54) (n := 4) rfl (by conv => lhs; whnf) rfl rfl (by kernel_rfl) rfl rfl (by decide) rfl (Nat.le_of_ble_eq_true rfl) (by intro r h; cases h)) ?_)) | ((with_reducible refine AL.k_box ?_); first | (refine AL.w rfl (OW.box (by conv => lhs; whnf) (by intro r h; cases h)) ?_))); (conv => (arg 5; try simp only [T.put, T.ev, putAt, setsT, newBlks, fillL, List.map, List.set, List.append, List.cons_append, List.nil_append, List.length, List.getElem?_cons_zero, List.getElem?_cons_succ, Nat.reduceAdd, Nat.reduceMul, Nat.zero_add, Nat.add_zero, Nat.mul_one, Nat.zero_mul, List.drop, List.take, List.toList_toArray, Value.cells, Int.reduceToNat, Int.toNat_natCast, List.getD, Option.getD, Option.map, flat, flat1, scal, setAll, Int.reduceAdd, if_true, ↓reduceIte])); (conv => (arg 6; try simp only [T.put, T.ev, putAt, setsT, newBlks, fillL, List.map, List.set, List.append, List.cons_append, List.nil_append, List.length, List.getElem?_cons_zero, List.getElem?_cons_succ, Nat.reduceAdd, Nat.reduceMul, Nat.zero_add, Nat.add_zero, Nat.mul_one, Nat.zero_mul, List.drop, List.take, List.toList_toArray, Value.cells, Int.reduceToNat, Int.toNat_natCast, List.getD, Option.getD, Option.map, flat, flat1, scal, setAll, Int.reduceAdd, if_true, ↓reduceIte])))
      | (refine AL.bs rfl (fun hc => ?_) (fun hc => ?_) <;> (fail_if_success (with_reducible exact lit_no hc)) <;> (try simp only [decide_eq_true_eq, decide_eq_false_iff_not, Bool.not_true, Bool.not_false, Bool.not_eq_true', Bool.not_eq_false', Int.not_lt, Int.not_le, Classical.not_not, ne_eq] at hc) <;> first | (exfalso; first | contradiction | (first | omega | (simp_all; done)); done) | (conv => (arg 5; try simp only [T.put, T.ev, putAt, setsT, newBlks, fillL, List.map, List.set, List.append, List.cons_append, List.nil_append, List.length, List.getElem?_cons_zero, List.getElem?_cons_succ, Nat.reduceAdd, Nat.reduceMul, Nat.zero_add, Nat.add_zero, Nat.mul_one, Nat.zero_mul, List.drop, List.take, List.toList_toArray, Value.cells, Int.reduceToNat, Int.toNat_natCast, List.getD, Option.getD, Option.map, flat, flat1, scal, setAll, Int.reduceAdd, if_true, ↓reduceIte])))
      | refine AL.nil ?_)
    | ((with_reducible refine AW.on ?_); first
      | refine AW.seq ?_
      | refine AW.skip ?_
      | refine AW.exit ?_
      | refine AW.ret ?_
      | (refine AW.block (id := 0) ?_; refine AW.unroll 3 ?_)
      | refine AW.block ?_
      | (refine AW.draw (id := 17) 30 #[0, 1, 3, 7, 0, 16, 48, 112, 0, 256, 768, 1792, 4095, 8191, 16383, 32767, 65535, 131071, 262143, 32767, 557055, 1605631, 3702783, 32767, 8421375, 25198591, 58753023, 134217727, 268435455, 536870911] (by kernel_rfl) (by kernel_rfl) ?_; (conv => (arg 8; simp only [List.take_succ_cons, List.take_zero])))
      | (refine AW.region (id := 2) ?_; exfalso; first | omega | (simp_all; done); done)
      | (refine AW.region (id := 7) ?_; exfalso; first | omega | (simp_all; done); done)
      | (refine AW.region (id := 9) ?_; exfalso; first | omega | (simp_all; done); done)
      | (refine AW.region (id := 13) ?_; exfalso; first | omega | (simp_all; done); done)
      | (refine AW.region (id := 18) ?_; exfalso; first | omega | (simp_all; done); done)
      | refine AW.region ?_
      | (refine AW.conds rfl (fun hc => ?_) (fun hc => ?_) <;> (try simp only [decide_eq_true_eq, decide_eq_false_iff_not, Bool.not_true, Bool.not_false, Bool.not_eq_true', Bool.not_eq_false', Int.not_lt, Int.not_le, Classical.not_not, ne_eq] at hc) <;> first | (exfalso; first | contradiction | (first | omega | (simp_all; done)); done) | skip))
    | ((with_reducible refine AD.on ?_); first
      | (refine AD.gskip rfl rfl rfl ?_; (conv => (arg 10; try simp only [T.put, T.ev, putAt, setsT, newBlks, fillL, List.map, List.set, List.append, List.cons_append, List.nil_append, List.length, List.getElem?_cons_zero, List.getElem?_cons_succ, Nat.reduceAdd, Nat.reduceMul, Nat.zero_add, Nat.add_zero, Nat.mul_one, Nat.zero_mul, List.drop, List.take, List.toList_toArray, Value.cells, Int.reduceToNat, Int.toNat_natCast, List.getD, Option.getD, Option.map, flat, flat1, scal, setAll, Int.reduceAdd, if_true, ↓reduceIte])))
      | ((first | refine AD.gn1 rfl rfl (by with_reducible rfl) rfl ?_ | refine AD.gn0 rfl rfl (by with_reducible rfl) rfl ?_); (conv => (arg 10; try simp only [T.put, T.ev, putAt, setsT, newBlks, fillL, List.map, List.set, List.append, List.cons_append, List.nil_append, List.length, List.getElem?_cons_zero, List.getElem?_cons_succ, Nat.reduceAdd, Nat.reduceMul, Nat.zero_add, Nat.add_zero, Nat.mul_one, Nat.zero_mul, List.drop, List.take, List.toList_toArray, Value.cells, Int.reduceToNat, Int.toNat_natCast, List.getD, Option.getD, Option.map, flat, flat1, scal, setAll, Int.reduceAdd, if_true, ↓reduceIte])))
      | ((first | ((with_reducible refine AD.k_move ?_); first | (refine AD.q rfl (OQ.move (by conv => lhs; whnf)) rfl rfl rfl ?_) | (refine AD.qc rfl rfl (by with_reducible rfl) (OQ.move (by conv => lhs; whnf)) rfl rfl rfl ?_)) | ((with_reducible refine AD.k_load ?_); first | (refine AD.q rfl (OQ.load1 (ty := 3) rfl (by kernel_rfl) (by conv => lhs; whnf)) rfl rfl rfl ?_) | (refine AD.qc rfl rfl (by with_reducible rfl) (OQ.load1 (ty := 3) rfl (by kernel_rfl) (by conv => lhs; whnf)) rfl rfl rfl ?_)) | ((with_reducible refine AD.k_binOp ?_); first | refine AD.q rfl (OQ.lss rfl rfl) rfl rfl rfl ?_ | refine AD.qc rfl rfl (by with_reducible rfl) (OQ.gtr rfl rfl) rfl rfl rfl ?_) | ((with_reducible refine AD.k_pick ?_); first | (refine AD.q rfl (OQ.pickT rfl (by with_reducible rfl) (by conv => lhs; whnf)) rfl rfl rfl ?_) | (refine AD.q rfl (OQ.pickF rfl (by with_reducible rfl) (by conv => lhs; whnf)) rfl rfl rfl ?_)) | ((with_reducible refine AD.k_indexAddr ?_); first | refine AD.q rfl (OQ.idxPtr (ty := 34) (n := 2) (l := 2) (g := true) rfl rfl (by kernel_rfl) (by omega) (by omega)) rfl rfl rfl ?_ | refine AD.q rfl (OQ.idxPtr (ty := 54) (n := 2) (l := 2) (g := true) rfl rfl (by kernel_rfl) (by omega) (by omega)) rfl rfl rfl ?_ | refine AD.qc rfl rfl (by with_reducible rfl) (OQ.idxPtr (ty := 34) (n := 2) (l := 2) (g := true) rfl rfl (by kernel_rfl) (by omega) (by omega)) rfl rfl rfl ?_ | refine AD.qc rfl rfl (by with_reducible rfl) (OQ.idxPtr (ty := 54) (n := 2) (l := 2) (g := true) rfl rfl (by kernel_rfl) (by omega) (by omega)) rfl rfl rfl ?_) | ((with_reducible refine AD.k_fieldAddr ?_); first | refine AD.q rfl (OQ.fieldA (ty := 28) (i := 0) (n := 1) (off := 0) (g := false) rfl (by kernel_rfl) (by decide)) rfl rfl rfl ?_ | refine AD.q rfl (OQ.fieldA (ty := 28) (i := 1) (n := 1) (off := 1) (g := false) rfl (by kernel_rfl) (by decide)) rfl rfl rfl ?_ | refine AD.q rfl (OQ.fieldA (ty := 44) (i := 0) (n := 1) (off := 0) (g := false) rfl (by kernel_rfl) (by decide)) rfl rfl rfl ?_ | refine AD.qc rfl rfl (by with_reducible rfl) (OQ.fieldA (ty := 28) (i := 0) (n := 1) (off := 0) (g := false) rfl (by kernel_rfl) (by decide)) rfl rfl rfl ?_ | refine AD.qc rfl rfl (by with_reducible rfl) (OQ.fieldA (ty := 28) (i := 1) (n := 1) (off := 1) (g := false) rfl (by kernel_rfl) (by decide)) rfl rfl rfl ?_ | refine AD.qc rfl rfl (by with_reducible rfl) (OQ.fieldA (ty := 44) (i := 1) (n := 1) (off := 1) (g := false) rfl (by kernel_rfl) (by decide)) rfl rfl rfl ?_)); (conv => (arg 10; try simp only [T.put, T.ev, putAt, setsT, newBlks, fillL, List.map, List.set, List.append, List.cons_append, List.nil_append, List.length, List.getElem?_cons_zero, List.getElem?_cons_succ, Nat.reduceAdd, Nat.reduceMul, Nat.zero_add, Nat.add_zero, Nat.mul_one, Nat.zero_mul, List.drop, List.take, List.toList_toArray, Value.cells, Int.reduceToNat, Int.toNat_natCast, List.getD, Option.getD, Option.map, flat, flat1, scal, setAll, Int.reduceAdd, if_true, ↓reduceIte])))
      | ((first | first | refine AD.pcall (g := 33) rfl (by kernel_rfl) rfl ((by first | exact C1 _ | exact C2 _ | exact C3 _ | exact C4 _)) rfl rfl ?_ | refine AD.pcallc (g := 33) rfl rfl (by with_reducible rfl) rfl (by kernel_rfl) rfl ((by first | exact C1 _ | exact C2 _ | exact C3 _ | exact C4 _)) rfl rfl ?_); (conv => (arg 10; try simp only [T.put, T.ev, putAt, setsT, newBlks, fillL, List.map, List.set, List.append, List.cons_append, List.nil_append, List.length, List.getElem?_cons_zero, List.getElem?_cons_succ, Nat.reduceAdd, Nat.reduceMul, Nat.zero_add, Nat.add_zero, Nat.mul_one, Nat.zero_mul, List.drop, List.take, List.toList_toArray, Value.cells, Int.reduceToNat, Int.toNat_natCast, List.getD, Option.getD, Option.map, flat, flat1, scal, setAll, Int.reduceAdd, if_true, ↓reduceIte])))
      | (refine AD.bs rfl (fun hc => ?_) (fun hc => ?_) <;> (fail_if_success (with_reducible exact lit_no hc)) <;> (try simp only [decide_eq_true_eq, decide_eq_false_iff_not, Bool.not_true, Bool.not_false, Bool.not_eq_true', Bool.not_eq_false', Int.not_lt, Int.not_le, Classical.not_not, ne_eq] at hc) <;> first | (exfalso; first | contradiction | (first | omega | (simp_all; done)); done) | (conv => (arg 10; try simp only [T.put, T.ev, putAt, setsT, newBlks, fillL, List.map, List.set, List.append, List.cons_append, List.nil_append, List.length, List.getElem?_cons_zero, List.getElem?_cons_succ, Nat.reduceAdd, Nat.reduceMul, Nat.zero_add, Nat.add_zero, Nat.mul_one, Nat.zero_mul, List.drop, List.take, List.toList_toArray, Value.cells, Int.reduceToNat, Int.toNat_natCast, List.getD, Option.getD, Option.map, flat, flat1, scal, setAll, Int.reduceAdd, if_true, ↓reduceIte])))
      | (refine AD.gs1 rfl rfl (fun hc => ?_) (fun hc => ?_) <;> (fail_if_success (with_reducible exact lit_no hc)) <;> (try simp only [decide_eq_true_eq, decide_eq_false_iff_not, Bool.not_true, Bool.not_false, Bool.not_eq_true', Bool.not_eq_false', Int.not_lt, Int.not_le, Classical.not_not, ne_eq] at hc) <;> first | (exfalso; first | contradiction | (first | omega | (simp_all; done)); done) | (conv => (arg 10; try simp only [T.put, T.ev, putAt, setsT, newBlks, fillL, List.map, List.set, List.append, List.cons_append, List.nil_append, List.length, List.getElem?_cons_zero, List.getElem?_cons_succ, Nat.reduceAdd, Nat.reduceMul, Nat.zero_add, Nat.add_zero, Nat.mul_one, Nat.zero_mul, List.drop, List.take, List.toList_toArray, Value.cells, Int.reduceToNat, Int.toNat_natCast, List.getD, Option.getD, Option.map, flat, flat1, scal, setAll, Int.reduceAdd, if_true, ↓reduceIte])))
      | (refine AD.gs0 rfl rfl (fun hc => ?_) (fun hc => ?_) <;> (fail_if_success (with_reducible exact lit_no hc)) <;> (try simp only [decide_eq_true_eq, decide_eq_false_iff_not, Bool.not_true, Bool.not_false, Bool.not_eq_true', Bool.not_eq_false', Int.not_lt, Int.not_le, Classical.not_not, ne_eq] at hc) <;> first | (exfalso; first | contradiction | (first | omega | (simp_all; done)); done) | (conv => (arg 10; try simp only [T.put, T.ev, putAt, setsT, newBlks, fillL, List.map, List.set, List.append, List.cons_append, List.nil_append, List.length, List.getElem?_cons_zero, List.getElem?_cons_succ, Nat.reduceAdd, Nat.reduceMul, Nat.zero_add, Nat.add_zero, Nat.mul_one, Nat.zero_mul, List.drop, List.take, List.toList_toArray, Value.cells, Int.reduceToNat, Int.toNat_natCast, List.getD, Option.getD, Option.map, flat, flat1, scal, setAll, Int.reduceAdd, if_true, ↓reduceIte])))
      | (refine AD.nil ?_; (conv => (arg 4; simp only [List.drop_succ_cons, List.drop_zero, List.drop_nil])); (conv => (arg 5; try simp only [T.put, T.ev, putAt, setsT, newBlks, fillL, List.map, List.set, List.append, List.cons_append, List.nil_append, List.length, List.getElem?_cons_zero, List.getElem?_cons_succ, Nat.reduceAdd, Nat.reduceMul, Nat.zero_add, Nat.add_zero, Nat.mul_one, Nat.zero_mul, List.drop, List.take, List.toList_toArray, Value.cells, Int.reduceToNat, Int.toNat_natCast, List.getD, Option.getD, Option.map, flat, flat1, scal, setAll, Int.reduceAdd, if_true, ↓reduceIte])); (conv => (arg 6; try simp only [T.put, T.ev, putAt, setsT, newBlks, fillL, List.map, List.set, List.append, List.cons_append, List.nil_append, List.length, List.getElem?_cons_zero, List.getElem?_cons_succ, Nat.reduceAdd, Nat.reduceMul, Nat.zero_add, Nat.add_zero, Nat.mul_one, Nat.zero_mul, List.drop, List.take, List.toList_toArray, Value.cells, Int.reduceToNat, Int.toNat_natCast, List.getD, Option.getD, Option.map, flat, flat1, scal, setAll, Int.reduceAdd, if_true, ↓reduceIte]))))
    | with_reducible refine AR.s ?_
    | ((with_reducible refine AR.out ?_); first | omega | (simp_all; done); done)
    | ((with_reducible refine FinP.on ?_); (first | refine FinP.ret (.tmp (by conv => lhs; whnf) .nil) ?_ rfl | refine FinP.end (.tmp (by conv => lhs; whnf) .nil) ?_ rfl); (try simp only [pack, List.drop, List.take]); all_goals (rfl)))
end
end Go.Proofs.Ytnocdnhhlppahaa
end

section
namespace Go.Proofs.Ytnocdnhhlppahaa.SeriesTracks
open Go.ChangeShapes Go.WideShapes Go.ChangeAt Go Go.RowKit Go.Ab Go.Sr Go.Proofs.Ytnocdnhhlppahaa
set_option maxRecDepth 100000

theorem mn4_sum (p0 p1 q0 q1 : Int) : mn4 (1000 * (p0 + q0)) (1000 * (p0 + q1)) (1000 * (p1 + q0)) (1000 * (p1 + q1)) = 1000 * (mn p0 p1 + mn q0 q1) ∧ mx4 (1000 * (p0 + q0)) (1000 * (p0 + q1)) (1000 * (p1 + q0)) (1000 * (p1 + q1)) = 1000 * (mx p0 p1 + mx q0 q1) ∧
    mn4 (1000 * (p0 + q0)) (1000 * (p1 + q0)) (1000 * (p0 + q1)) (1000 * (p1 + q1)) = 1000 * (mn p0 p1 + mn q0 q1) ∧ mx4 (1000 * (p0 + q0)) (1000 * (p1 + q0)) (1000 * (p0 + q1)) (1000 * (p1 + q1)) = 1000 * (mx p0 p1 + mx q0 q1) := by
  have fm : ∀ x y, (mn x y = x ∨ mn x y = y) ∧ mn x y ≤ x ∧ mn x y ≤ y := fun x y => by unfold mn; split <;> omega
  have fx : ∀ x y, (mx x y = x ∨ mx x y = y) ∧ x ≤ mx x y ∧ y ≤ mx x y := fun x y => by unfold mx; split <;> omega
  have f1 := fm p0 p1
  have f2 := fm q0 q1
  have f3 := fx p0 p1
  have f4 := fx q0 q1
  refine ⟨?_, ?_, ?_, ?_⟩
  · have a1 := fm (1000 * (p0 + q0)) (1000 * (p0 + q1))
    have a2 := fm (mn (1000 * (p0 + q0)) (1000 * (p0 + q1))) (1000 * (p1 + q0))
    have a3 := fm (mn (mn (1000 * (p0 + q0)) (1000 * (p0 + q1))) (1000 * (p1 + q0))) (1000 * (p1 + q1))
    unfold mn4
    omega
  · have a1 := fx (1000 * (p0 + q0)) (1000 * (p0 + q1))
    have a2 := fx (mx (1000 * (p0 + q0)) (1000 * (p0 + q1))) (1000 * (p1 + q0))
    have a3 := fx (mx (mx (1000 * (p0 + q0)) (1000 * (p0 + q1))) (1000 * (p1 + q0))) (1000 * (p1 + q1))
    unfold mx4
    omega
  · have a1 := fm (1000 * (p0 + q0)) (1000 * (p1 + q0))
    have a2 := fm (mn (1000 * (p0 + q0)) (1000 * (p1 + q0))) (1000 * (p0 + q1))
    have a3 := fm (mn (mn (1000 * (p0 + q0)) (1000 * (p1 + q0))) (1000 * (p0 + q1))) (1000 * (p1 + q1))
    unfold mn4
    omega
  · have a1 := fx (1000 * (p0 + q0)) (1000 * (p1 + q0))
    have a2 := fx (mx (1000 * (p0 + q0)) (1000 * (p1 + q0))) (1000 * (p0 + q1))
    have a3 := fx (mx (mx (1000 * (p0 + q0)) (1000 * (p1 + q0))) (1000 * (p0 + q1))) (1000 * (p1 + q1))
    unfold mx4
    omega
theorem box_pos_eq (u e a b u' e' a' b' d : Int) : bxR (1000 * (bU e e' a a')) (1000 * (bU e e' a b')) (1000 * (bU e e' b a')) (1000 * (bU e e' b b')) (1000 * (bE u u' a a')) (1000 * (bE u u' a b')) (1000 * (bE u u' b a')) (1000 * (bE u u' b b')) d =
    bxV (cmL a b e' a' b' (-e)) (cmH a b e' a' b' (-e)) (cmL a' b' u a b (-u')) (cmH a' b' u a b (-u')) d := by
  have e1 : ∀ f s, bU e e' f s = f * e' + s * -e := fun f s => by unfold bU; rw [Int.mul_neg]; rfl
  have e2 : ∀ f s, bE u u' f s = s * u + f * -u' := fun f s => by unfold bE; rw [Int.mul_neg]; rfl
  simp only [bxR, e1, e2, (mn4_sum _ _ _ _).1, (mn4_sum _ _ _ _).2.1, (mn4_sum _ _ _ _).2.2.1, (mn4_sum _ _ _ _).2.2.2]
  rfl
theorem box_neg_eq (u e a b u' e' a' b' d : Int) : bxR (1000 * -(bU e e' a a')) (1000 * -(bU e e' a b')) (1000 * -(bU e e' b a')) (1000 * -(bU e e' b b')) (1000 * -(bE u u' a a')) (1000 * -(bE u u' a b')) (1000 * -(bE u u' b a')) (1000 * -(bE u u' b b')) d =
    bxV (cmL a' b' e a b (-e')) (cmH a' b' e a b (-e')) (cmL a b u' a' b' (-u)) (cmH a b u' a' b' (-u)) d := by
  have e1 : ∀ f s, -bU e e' f s = s * e + f * -e' := fun f s => by unfold bU; rw [Int.mul_neg]; omega
  have e2 : ∀ f s, -bE u u' f s = f * u' + s * -u := fun f s => by unfold bE; rw [Int.mul_neg]; omega
  simp only [bxR, e1, e2, (mn4_sum _ _ _ _).1, (mn4_sum _ _ _ _).2.1, (mn4_sum _ _ _ _).2.2.1, (mn4_sum _ _ _ _).2.2.2]
  rfl
/-- Fractions in lowest terms. -/
theorem fr_scale (n d : Int) : frN (2 * n) (2 * d) = frN n d ∧ frD (2 * n) (2 * d) = frD n d := by
  have e : frG (2 * n) (2 * d) = 2 * frG n d := by
    unfold frG
    rw [Int.gcd_mul_left]
    have : (Int.natAbs 2) = 2 := rfl
    split <;> split <;> (simp only [this, Int.natCast_mul]; omega)
  unfold frN frD
  rw [e]
  exact ⟨Int.mul_tdiv_mul_of_pos _ _ (by decide), Int.mul_tdiv_mul_of_pos _ _ (by decide)⟩
theorem fr_exact {n d : Int} (h0 : d ≠ 0) : n = frG n d * frN n d ∧ d = frG n d * frD n d ∧ 0 < frD n d ∧ (0 < d → 0 < frG n d) ∧ (d < 0 → frG n d < 0) := by
  have hp := gcd_pos (n := n) h0
  have h1 : frG n d ∣ n := by
    unfold frG
    split
    · exact Int.neg_dvd.2 (Int.gcd_dvd_left ..)
    · exact Int.gcd_dvd_left ..
  have h2 : frG n d ∣ d := by
    unfold frG
    split
    · exact Int.neg_dvd.2 (Int.gcd_dvd_right ..)
    · exact Int.gcd_dvd_right ..
  have h3 := (fr_of (n := n) (x := Int.gcd n d) h0 (by omega)).2.2
  refine ⟨(Int.mul_tdiv_cancel' h1).symm, (Int.mul_tdiv_cancel' h2).symm, by omega, fun h => ?_, fun h => ?_⟩
  · unfold frG; rw [if_neg (by omega)]; exact hp
  · unfold frG; rw [if_pos h]; omega
theorem fr_ge {n d k : Int} (h0 : d ≠ 0) (h1 : 0 < d → k * d ≤ n) (h2 : d < 0 → n ≤ k * d) : k * frD n d ≤ frN n d := by
  obtain ⟨e1, e2, e3, e4, e5⟩ := fr_exact (n := n) h0
  generalize frG n d = g at *
  generalize frN n d = x at *
  generalize frD n d = y at *
  rcases Int.lt_or_gt_of_ne h0 with h | h
  · have := h2 h
    have hg := e5 h
    rw [e1, e2, ← Int.mul_assoc, Int.mul_comm k g, Int.mul_assoc] at this
    exact Int.le_of_mul_le_mul_left (a := -g) (by rw [Int.neg_mul, Int.neg_mul]; omega) (by omega)
  · have := h1 h
    have hg := e4 h
    rw [e1, e2, ← Int.mul_assoc, Int.mul_comm k g, Int.mul_assoc] at this
    exact Int.le_of_mul_le_mul_left this hg
theorem fr_le {n d k : Int} (h0 : d ≠ 0) (h1 : 0 < d → n ≤ k * d) (h2 : d < 0 → k * d ≤ n) : frN n d ≤ k * frD n d := by
  obtain ⟨e1, e2, e3, e4, e5⟩ := fr_exact (n := n) h0
  generalize frG n d = g at *
  generalize frN n d = x at *
  generalize frD n d = y at *
  rcases Int.lt_or_gt_of_ne h0 with h | h
  · have := h2 h
    have hg := e5 h
    rw [e1, e2, ← Int.mul_assoc, Int.mul_comm k g, Int.mul_assoc] at this
    exact Int.le_of_mul_le_mul_left (a := -g) (by rw [Int.neg_mul, Int.neg_mul]; omega) (by omega)
  · have := h1 h
    have hg := e4 h
    rw [e1, e2, ← Int.mul_assoc, Int.mul_comm k g, Int.mul_assoc] at this
    exact Int.le_of_mul_le_mul_left this hg
/-- The middle of the first and the last of four numbers lies between the rounded quotients. -/
theorem mid {p0 p1 p2 p3 dd N D : Int} (hd : 0 < dd) (hN : N = p0 + p3 ∧ D = 2 * dd ∨ N = -(p0 + p3) ∧ D = -(2 * dd)) :
    mn4 p0 p1 p2 p3 / dd * frD N D ≤ frN N D ∧ frN N D ≤ -(-mx4 p0 p1 p2 p3 / dd) * frD N D := by
  have k1 : mn4 p0 p1 p2 p3 ≤ p0 ∧ mn4 p0 p1 p2 p3 ≤ p3 := by unfold mn4 mn; split <;> split <;> split <;> omega
  have k2 : p0 ≤ mx4 p0 p1 p2 p3 ∧ p3 ≤ mx4 p0 p1 p2 p3 := by unfold mx4 mx; split <;> split <;> split <;> omega
  have l1 := Int.ediv_mul_le (mn4 p0 p1 p2 p3) (by omega : dd ≠ 0)
  have l2 := Int.ediv_mul_le (-mx4 p0 p1 p2 p3) (by omega : dd ≠ 0)
  generalize mn4 p0 p1 p2 p3 = mn at *
  generalize mx4 p0 p1 p2 p3 = mx at *
  generalize mn / dd = x at *
  generalize -mx / dd = y at *
  have e1 : x * D = x * (2 * dd) ∨ x * D = -(x * (2 * dd)) := by
    rcases hN with ⟨_, h⟩ | ⟨_, h⟩
    · exact .inl (by rw [h])
    · exact .inr (by rw [h, Int.mul_neg])
  have e2 : -y * D = -y * (2 * dd) ∨ -y * D = y * (2 * dd) := by
    rcases hN with ⟨_, h⟩ | ⟨_, h⟩
    · exact .inl (by rw [h])
    · exact .inr (by rw [h, Int.neg_mul_neg])
  have a1 : x * (2 * dd) = 2 * (x * dd) := by rw [Int.mul_left_comm]
  have a2 : y * (2 * dd) = 2 * (y * dd) := by rw [Int.mul_left_comm]
  constructor
  · refine fr_ge (by omega) (fun h => ?_) (fun h => ?_)
    · rcases hN with ⟨h3, h4⟩ | ⟨_, h⟩
      · rw [h4, a1]; omega
      · omega
    · rcases hN with ⟨_, h⟩ | ⟨h3, h4⟩
      · omega
      · rw [h4, Int.mul_neg, a1]; omega
  · refine fr_le (by omega) (fun h => ?_) (fun h => ?_)
    · rcases hN with ⟨h3, h4⟩ | ⟨_, h⟩
      · rw [h4, Int.neg_mul, a2]; omega
      · omega
    · rcases hN with ⟨_, h⟩ | ⟨h3, h4⟩
      · omega
      · rw [h4, Int.neg_mul_neg, a2]; omega
theorem bx_bd {p0 p1 p2 p3 d : Int} (hd : 0 < d) (h0 : -4000000000000000 ≤ p0 ∧ p0 ≤ 4000000000000000) (h1 : -4000000000000000 ≤ p1 ∧ p1 ≤ 4000000000000000) (h2 : -4000000000000000 ≤ p2 ∧ p2 ≤ 4000000000000000) (h3 : -4000000000000000 ≤ p3 ∧ p3 ≤ 4000000000000000) :
    (-9000000000000000000 ≤ mn4 p0 p1 p2 p3 / d ∧ mn4 p0 p1 p2 p3 / d ≤ 9000000000000000000) ∧ -9000000000000000000 ≤ -(-mx4 p0 p1 p2 p3 / d) ∧ -(-mx4 p0 p1 p2 p3 / d) ≤ 9000000000000000000 := by
  obtain ⟨k1, k2⟩ := mn4_bd h0 h1 h2 h3
  have := ediv_bd (n := mn4 p0 p1 p2 p3) hd (B := 4000000000000000) (by decide) k1
  have := ediv_bd (n := -mx4 p0 p1 p2 p3) hd (B := 4000000000000000) (by decide) (by omega)
  omega
theorem walk (u e a b u' e' a' b' : Int) (W : World) : Calls Try.prog 5 #[siV u e a b u' e' a' b'] W fun e w' => e = .returned (.bool true) ∧ Below W.heap.size W w' := by
  refine glue0 (us := [_]) rfl ?_
  by_cases h : siEE u e a b u' e' a' b' = 0
  case neg => exact Tracks_e u e a b u' e' a' b' _ rfl h
  have RU := rUpAndEast_q u e a b u' e' a' b' h
  by_cases hd : siD u e u' e' = 0
  · rw [hd] at RU
    rw [show twV (ueA e a b e' a' b') (ueB u a b u' a' b') 0 = z4 by simp [twV], show twE (ueA e a b e' a' b') (ueB u a b u' a' b') 0 = 30 by simp [twE]] at RU
    exact Tracks_n u e a b u' e' a' b' _ _ _ _ _ _ _ _ _ _ h (UpAndEast_z u e a b u' e' a' b' h hd) RU (Box_0 u e a b u' e' a' b' h hd) (rBox_no u e a b u' e' a' b' h hd) (by decide)
  have key : ∃ p0 p1 p2 p3 q0 q1 q2 q3 dd : Int, (∀ m, PCalls Try.prog 27 [siV u e a b u' e' a' b'] m (.tuple #[bxR p0 p1 p2 p3 q0 q1 q2 q3 dd, .int .i64 0])) ∧ (∀ m, PCalls Try.prog 32 [siV u e a b u' e' a' b'] m (.tuple #[bxR p0 p1 p2 p3 q0 q1 q2 q3 dd, .int .i64 0])) ∧
      0 < dd ∧ (dd = siD u e u' e' ∧ p0 + p3 = 1000 * ((a + b) * e' - (a' + b') * e) ∧ q0 + q3 = 1000 * ((a' + b') * u - (a + b) * u') ∨ dd = -siD u e u' e' ∧ p0 + p3 = -(1000 * ((a + b) * e' - (a' + b') * e)) ∧ q0 + q3 = -(1000 * ((a' + b') * u - (a + b) * u'))) ∧
      (∀ x, (x = p0 ∨ x = p1 ∨ x = p2 ∨ x = p3 ∨ x = q0 ∨ x = q1 ∨ x = q2 ∨ x = q3) → -4000000000000000 ≤ x ∧ x ≤ 4000000000000000) := by
    obtain ⟨h1, h2⟩ := siEE_ok h
    have k1 := siE_ok h1
    have k2 := siE_ok h2
    have bd : ∀ (f s : Int), (f = a ∨ f = b) → (s = a' ∨ s = b') → (-4000000000000 ≤ bU e e' f s ∧ bU e e' f s ≤ 4000000000000) ∧ -4000000000000 ≤ bE u u' f s ∧ bE u u' f s ≤ 4000000000000 := fun f s hf hs => by
      have hf' : -2000000000 ≤ f ∧ f ≤ 2000000000 := by rcases hf with rfl | rfl <;> omega
      have hs' : -2000000000 ≤ s ∧ s ≤ 2000000000 := by rcases hs with rfl | rfl <;> omega
      have m1 := si_mul2 hf' k2.2.1
      have m2 := si_mul2 hs' k1.2.1
      have m3 := si_mul2 hs' k1.1
      have m4 := si_mul2 hf' k2.1
      unfold bU bE
      omega
    have b00 := bd a a' (.inl rfl) (.inl rfl)
    have b01 := bd a b' (.inl rfl) (.inr rfl)
    have b10 := bd b a' (.inr rfl) (.inl rfl)
    have b11 := bd b b' (.inr rfl) (.inr rfl)
    have s1 : bU e e' a a' + bU e e' b b' = (a + b) * e' - (a' + b') * e := by unfold bU; rw [Int.add_mul, Int.add_mul]; omega
    have s2 : bE u u' a a' + bE u u' b b' = (a' + b') * u - (a + b) * u' := by unfold bE; rw [Int.add_mul, Int.add_mul]; omega
    rcases Int.lt_or_gt_of_ne hd with hn | hp
    · have e1 := rBox_neg u e a b u' e' a' b' h hn
      rw [← box_neg_eq, siD_swap] at e1
      refine ⟨_, _, _, _, _, _, _, _, _, Box_neg u e a b u' e' a' b' h (by omega), e1, by omega, .inr ⟨rfl, by omega, by omega⟩, ?_⟩
      rintro x (rfl | rfl | rfl | rfl | rfl | rfl | rfl | rfl) <;> omega
    · have e1 := rBox_pos u e a b u' e' a' b' h hp
      rw [← box_pos_eq] at e1
      refine ⟨_, _, _, _, _, _, _, _, _, Box_pos u e a b u' e' a' b' h hp, e1, hp, .inl ⟨rfl, by omega, by omega⟩, ?_⟩
      rintro x (rfl | rfl | rfl | rfl | rfl | rfl | rfl | rfl) <;> omega
  obtain ⟨p0, p1, p2, p3, q0, q1, q2, q3, dd, HB, RB_, hdd, hs, hbd⟩ := key
  have eA : ∀ x, 1000 * x = 2 * (500 * x) := fun x => by omega
  obtain ⟨fa1, fa2⟩ := fr_scale (ueA e a b e' a' b') (siD u e u' e')
  obtain ⟨fb1, fb2⟩ := fr_scale (ueB u a b u' a' b') (siD u e u' e')
  have eN : 1000 * ((a + b) * e' - (a' + b') * e) = 2 * ueA e a b e' a' b' := by unfold ueA; omega
  have eM : 1000 * ((a' + b') * u - (a + b) * u') = 2 * ueB u a b u' a' b' := by unfold ueB; omega
  have hsm : allSm (2 * siD u e u' e') [2 * ueA e a b e' a' b', 2 * ueB u a b u' a' b'] = (frSm (ueA e a b e' a' b') (siD u e u' e') && frSm (ueB u a b u' a' b') (siD u e u' e')) := by
    simp only [allSm, List.all_cons, List.all_nil, Bool.and_true, frSm, fa1, fa2, fb1, fb2]
  cases hok : frSm (ueA e a b e' a' b') (siD u e u' e') && frSm (ueB u a b u' a' b') (siD u e u' e') with
  | false =>
    have h' : ¬ (frSm (ueA e a b e' a' b') (siD u e u' e') = true ∧ frSm (ueB u a b u' a' b') (siD u e u' e') = true) := fun hh => by simp [hh.1, hh.2] at hok
    rw [show twV (ueA e a b e' a' b') (ueB u a b u' a' b') (siD u e u' e') = z4 by simp [twV, h'], show twE (ueA e a b e' a' b') (ueB u a b u' a' b') (siD u e u' e') = 8 by simp [twE, h', hd]] at RU
    exact Tracks_n u e a b u' e' a' b' _ _ _ _ _ _ _ _ _ _ h (UpAndEast_false u e a b u' e' a' b' _ _ _ h hd eN eM rfl (by rw [hsm, hok])) RU HB RB_ (by decide)
  | true =>
    have h' := hok
    rw [Bool.and_eq_true] at h'
    rw [show twV (ueA e a b e' a' b') (ueB u a b u' a' b') (siD u e u' e') = .agg #[.int .i64 (frN (ueA e a b e' a' b') (siD u e u' e')), .int .i64 (frD (ueA e a b e' a' b') (siD u e u' e')), .int .i64 (frN (ueB u a b u' a' b') (siD u e u' e')), .int .i64 (frD (ueB u a b u' a' b') (siD u e u' e'))] by simp [twV, h', hd], show twE (ueA e a b e' a' b') (ueB u a b u' a' b') (siD u e u' e') = 0 by simp [twE, h', hd], ← fa1, ← fa2, ← fb1, ← fb2] at RU
    have g1 := h'.1
    have g2 := h'.2
    simp only [frSm, Bool.and_eq_true, rngB_true] at g1 g2
    rw [← fa1, ← fa2] at g1
    rw [← fb1, ← fb2] at g2
    have hD : 2 * siD u e u' e' ≠ 0 := by omega
    have m1 : _ ∧ _ := mid (p0 := p0) (p1 := p1) (p2 := p2) (p3 := p3) (N := 2 * ueA e a b e' a' b') (D := 2 * siD u e u' e') hdd (by rcases hs with ⟨x1, x2, x3⟩ | ⟨x1, x2, x3⟩ <;> omega)
    have m2 : _ ∧ _ := mid (p0 := q0) (p1 := q1) (p2 := q2) (p3 := q3) (N := 2 * ueB u a b u' a' b') (D := 2 * siD u e u' e') hdd (by rcases hs with ⟨x1, x2, x3⟩ | ⟨x1, x2, x3⟩ <;> omega)
    obtain ⟨z1, z2⟩ := bx_bd hdd (hbd p0 (by simp)) (hbd p1 (by simp)) (hbd p2 (by simp)) (hbd p3 (by simp))
    obtain ⟨z3, z4⟩ := bx_bd hdd (hbd q0 (by simp)) (hbd q1 (by simp)) (hbd q2 (by simp)) (hbd q3 (by simp))
    exact Tracks_y u e a b u' e' a' b' _ _ _ _ _ _ _ _ _ _ h (UpAndEast_true u e a b u' e' a' b' _ _ _ h hd eN eM rfl (by rw [hsm, hok])) RU HB RB_ rfl ⟨by omega, g1.2.2⟩ ⟨by omega, g2.2.2⟩ g1.1 g2.1 z1 z2 z3 z4 (cmpF_ge (by omega) m1.1) (cmpF_le (by omega) m1.2) (cmpF_ge (by omega) m2.1) (cmpF_le (by omega) m2.2)

set_option maxRecDepth 100000 in
theorem lifted (os : Os) (started : os.Started) (H : Type) (enc : TypeId × Value → H) :
    ReturnsInHanded {} Try.checked os 5 .any (Rows.seriesTracksSpec.pre6 enc Try.prog Try.f5 Rows.seriesTracksRow.domain false) (Rows.seriesTracksSpec.post enc Try.prog Try.f5 false true false false) := by
  refine returnsInHanded_of_change (C := Try.checked) own started (by kernel_rfl) Try.func5
    (ChangeSpec.witness6 (enc := enc) (C := Try.checked) false ⟨#[], #[.agg #[.int .i64 0, .int .i64 0, .int .i64 0, .int .i64 0, .int .i64 0, .int .i64 0, .int .i64 0, .int .i64 0]], []⟩ 8 (by kernel_rfl) (by kernel_rfl) (by kernel_rfl) (by kernel_rfl)) ?_
  intro W base args ds gs before hval0 hW hcnd _
  have hval : ∀ (j : Nat) t v, Try.f5.params[j]? = some t → args[j]? = some v → Value.okWide Try.prog W .any base t v := hval0
  have hW' := hW
  obtain ⟨p, q, hA0, hV, rfl, hfz, hnd⟩ := hW
  have hA : DataW.TrodAll enc Try.prog W 0 (fun _ => true) true Try.f5.params.toList args.toList ds p := hA0
  rw [Try.params5] at hA hval
  obtain ⟨v0, vs0, d0, ds0, p0, q0, hargs, rfl, rfl, h0, r0⟩ := trodAll_cons hA
  obtain ⟨rfl, rfl, rfl⟩ := trodAll_nil r0
  obtain rfl : args = #[v0] := by cases args; simp_all
  obtain ⟨rfl, rfl⟩ := trodVars_none hV
  clear hA0 hval0
  have hlt := hW'.lt
  have g0 := h0
  obtain ⟨x0_0, x1_0, x2_0, x3_0, x4_0, x5_0, x6_0, x7_0, rfl, hx0_0, hx1_0, hx2_0, hx3_0, hx4_0, hx5_0, hx6_0, hx7_0⟩ := open_T (hval 0 48 v0 rfl rfl) h0
  simp only [List.append_nil] at hW' hlt ⊢
  refine (walk x0_0 x1_0 x2_0 x3_0 x4_0 x5_0 x6_0 x7_0 W).mono fun e W' ⟨he, hb⟩ => ?_
  subst he
  have stay : ∀ (t : TypeId) v d ps (sp : Nat → Bool), Try.prog.readableRec t = true → t < Try.prog.types.size → DataW.Trod enc Try.prog W 0 (fun _ => true) true t v d ps → (∀ x ∈ ps, x.block < W.heap.size) → (∀ x ∈ ps, sp x.block = true) → DataW.Trod enc Try.prog W' 0 sp true t v d ps :=
    fun t v d ps sp hr ht h hx hs => Go.WideElems.Trod_stays laid hr ht h (fun x hxp => hb.same (hx x hxp)) hs
  exact ⟨_, rfl, post_below (pa := p0 ++ []) (pv := []) hW' (fun _ _ _ => trodAll_mk1 (shut_bool Try.underlying4 true)) (fun sp hs => (trodAll_cons_mk (stay 48 _ _ _ sp (by kernel_rfl) (of_decide_eq_true (by kernel_rfl)) g0 (fun x hx => hlt x (by simp [hx])) (fun x hx => hs x (by simp [hx]))) (trodAll_mk0))) (fun _ _ => rfl) (by simp)
    hb (ok_one (by kernel_rfl) rfl (okWide_bool_mk Try.underlying4 true))⟩

theorem over : Rows.seriesTracksRow.holds Try.pinned (OpenSpec.ofChange Rows.seriesTracksSpec) :=
  OpenClaim.holds_of_wide 5 Try.f5 rfl rfl rfl rfl rfl rfl rfl ⟨rfl, rfl, rfl, rfl, rfl⟩ rfl rfl rfl rfl rfl (by kernel_rfl) Try.func5 (by kernel_rfl)
    (of_decide_eq_true (by kernel_rfl)) (by unfold Func.isWrapper; first | (rw [if_pos (by decide +kernel)]; kernel_rfl) | (rw [if_neg (by decide +kernel)]; exact ⟨rfl, rfl⟩))
    (fun os started H enc _ => lifted os started H enc)

/-- The statement. -/
theorem proved : Rows.SeriesTracksSaid := over
#print axioms proved
end Go.Proofs.Ytnocdnhhlppahaa.SeriesTracks
end
