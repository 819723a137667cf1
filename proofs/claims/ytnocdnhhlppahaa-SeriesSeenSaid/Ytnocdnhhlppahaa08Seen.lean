/- SeriesSeen: without the reference: a movement of the ground lies in the box of what two tracks saw of it, rounded down and up. -/
import Derived.Test.Ytnocdnhhlppahaa08G
set_option linter.unusedSimpArgs false
set_option linter.unusedVariables false
section
namespace Go.Proofs.Ytnocdnhhlppahaa
open Go.ChangeShapes Go.WideShapes Go.ChangeAt Go Go.RowKit Go.Ab Go.Sr
set_option maxRecDepth 100000
set_option maxHeartbeats 4000000
attribute [local irreducible] OQ OW AL AW AD AF SW

theorem cells_G : Try.prog.cellsOf 50 = 2 := by kernel_rfl
theorem ints_G : intsT Try.prog 4 50 = true := by kernel_rfl
set_option maxRecDepth 100000 in
theorem open_G {H : Type} {enc : TypeId × Value → H} {w : World} {base : Nat} {spare : Nat → Bool} {held : Bool} {r : Reach} {b0 : Nat} {v : Value} {d : DataW H} {p : List MemPlace} (hv : Value.okWide Try.prog w r b0 50 v) (h : DataW.Trod enc Try.prog w base spare held 50 v d p) :
    ∃ x0 x1 : Int, v = .agg #[.int .i64 x0, .int .i64 x1] ∧ (-9223372036854775808 ≤ x0 ∧ x0 ≤ 9223372036854775807) ∧ (-9223372036854775808 ≤ x1 ∧ x1 ≤ 9223372036854775807) := by
  obtain ⟨cs, rfl, hsz⟩ := okWide_struct Try.underlying50 hv
  obtain ⟨l⟩ := cs
  obtain ⟨fuel, hf⟩ := h
  have hi := ints_of 4 _ _ _ _ ints_G hf
  match l, hsz.trans cells_G, hi with
  | [c0, c1], _, hi =>
    obtain ⟨x0, rfl, hx0⟩ := hi c0 (by simp [Value.cells])
    obtain ⟨x1, rfl, hx1⟩ := hi c1 (by simp [Value.cells])
    exact ⟨x0, x1, rfl, wf_bd hx0, wf_bd hx1⟩
theorem SeriesSeen_n (u e a b u' e' a' b' g g' : Int) (h : siEE u e a b u' e' a' b' ≠ 0 ∨ (rngB g (-1000000) 1000000 && rngB g' (-1000000) 1000000) = false) : PCalls Try.prog 4 [siV u e a b u' e' a' b', .agg #[.int .i64 g, .int .i64 g']] [] (.bool true) := by
  have HA := awake_q
  have H1 := rCheckSights_q u e a b u' e' a' b'
  have H2 := rWithin_q g (-1000000) 1000000
  have H3 := rWithin_q g' (-1000000) 1000000
  generalize siEE u e a b u' e' a' b' = c at *
  generalize rngB g (-1000000) 1000000 = b1 at *
  generalize rngB g' (-1000000) 1000000 = b2 at *
  refine PCalls.enter (t := [siV u e a b u' e' a' b', .agg #[.int .i64 g, .int .i64 g'], undef, undef, undef, undef, undef, undef, undef, undef, undef, undef, undef, undef, undef, undef, undef, undef, undef, undef, undef, undef, undef, undef, undef, undef, undef, undef, undef, undef, undef, undef, undef, undef, undef, undef, undef, undef, undef, undef, undef, undef, undef, undef, undef, undef, undef, undef, undef, undef, undef, undef, undef, undef, undef, undef, undef, undef, undef, undef, undef, undef, undef, undef, undef, undef, undef, undef, undef, undef, undef, undef, undef, undef, undef, undef, undef, undef, undef, undef, undef, undef, undef, undef, undef, undef, undef, undef, undef, undef, undef, undef, undef, undef, undef, undef, undef, undef, undef, undef]) Try.func4 rfl (ro_nil) rfl fun E => ?_
  repeat' (first
    | with_reducible refine Then.n ?_
    | with_reducible refine Then.r ?_
    | with_reducible refine Then.x ?_
    | with_reducible refine InB.n ?_
    | with_reducible refine InB.r ?_
    | with_reducible refine InB.hit ?_
    | with_reducible refine InB.miss (by decide) ?_
    | ((with_reducible refine AL.on ?_); first
      | (refine AL.gd rfl ?_; first | (refine AL.gskip rfl rfl ?_; (conv => (arg 5; try simp only [T.put, T.ev, putAt, setsT, newBlks, fillL, List.map, List.set, List.append, List.cons_append, List.nil_append, List.length, List.getElem?_cons_zero, List.getElem?_cons_succ, Nat.reduceAdd, Nat.reduceMul, Nat.zero_add, Nat.add_zero, Nat.mul_one, Nat.zero_mul, List.drop, List.take, List.toList_toArray, Value.cells, Int.reduceToNat, Int.toNat_natCast, List.getD, Option.getD, Option.map, flat, flat1, scal, setAll, Int.reduceAdd, if_true, ↓reduceIte]))) | (refine AL.gs1 rfl rfl (fun hc => ?_) (fun hc => ?_) <;> (try simp only [decide_eq_true_eq, decide_eq_false_iff_not, Bool.not_true, Bool.not_false, Bool.not_eq_true', Bool.not_eq_false', Int.not_lt, Int.not_le, Classical.not_not, ne_eq] at hc) <;> first | (exfalso; first | contradiction | (first | omega | (simp_all; done)); done) | (conv => (arg 5; try simp only [T.put, T.ev, putAt, setsT, newBlks, fillL, List.map, List.set, List.append, List.cons_append, List.nil_append, List.length, List.getElem?_cons_zero, List.getElem?_cons_succ, Nat.reduceAdd, Nat.reduceMul, Nat.zero_add, Nat.add_zero, Nat.mul_one, Nat.zero_mul, List.drop, List.take, List.toList_toArray, Value.cells, Int.reduceToNat, Int.toNat_natCast, List.getD, Option.getD, Option.map, flat, flat1, scal, setAll, Int.reduceAdd, if_true, ↓reduceIte]))) | (refine AL.gs0 rfl rfl (fun hc => ?_) (fun hc => ?_) <;> (try simp only [decide_eq_true_eq, decide_eq_false_iff_not, Bool.not_true, Bool.not_false, Bool.not_eq_true', Bool.not_eq_false', Int.not_lt, Int.not_le, Classical.not_not, ne_eq] at hc) <;> first | (exfalso; first | contradiction | (first | omega | (simp_all; done)); done) | (conv => (arg 5; try simp only [T.put, T.ev, putAt, setsT, newBlks, fillL, List.map, List.set, List.append, List.cons_append, List.nil_append, List.length, List.getElem?_cons_zero, List.getElem?_cons_succ, Nat.reduceAdd, Nat.reduceMul, Nat.zero_add, Nat.add_zero, Nat.mul_one, Nat.zero_mul, List.drop, List.take, List.toList_toArray, Value.cells, Int.reduceToNat, Int.toNat_natCast, List.getD, Option.getD, Option.map, flat, flat1, scal, setAll, Int.reduceAdd, if_true, ↓reduceIte]))))
      | ((first | ((with_reducible refine AL.k_fieldAddr ?_); first | refine AL.q rfl (OQ.fieldA (ty := 50) (i := 0) (n := 1) (off := 0) (g := false) rfl (by kernel_rfl) (by decide)) ?_ | refine AL.q rfl (OQ.fieldA (ty := 50) (i := 1) (n := 1) (off := 1) (g := false) rfl (by kernel_rfl) (by decide)) ?_ | refine AL.q rfl (OQ.fieldA (ty := 48) (i := 0) (n := 4) (off := 0) (g := true) rfl (by kernel_rfl) (by decide)) ?_ | refine AL.q rfl (OQ.fieldA (ty := 46) (i := 0) (n := 1) (off := 0) (g := false) rfl (by kernel_rfl) (by decide)) ?_ | refine AL.q rfl (OQ.fieldA (ty := 46) (i := 1) (n := 1) (off := 1) (g := false) rfl (by kernel_rfl) (by decide)) ?_ | refine AL.q rfl (OQ.fieldA (ty := 48) (i := 1) (n := 4) (off := 4) (g := true) rfl (by kernel_rfl) (by decide)) ?_ | refine AL.q rfl (OQ.fieldA (ty := 46) (i := 2) (n := 2) (off := 2) (g := true) rfl (by kernel_rfl) (by decide)) ?_ | refine AL.q rfl (OQ.fieldA (ty := 44) (i := 0) (n := 1) (off := 0) (g := false) rfl (by kernel_rfl) (by decide)) ?_ | refine AL.q rfl (OQ.fieldA (ty := 44) (i := 1) (n := 1) (off := 1) (g := false) rfl (by kernel_rfl) (by decide)) ?_) | ((with_reducible refine AL.k_load ?_); first | refine AL.q rfl (OQ.loadN (ty := 48) (n := 8) rfl (by kernel_rfl) (by kernel_rfl) rfl) ?_ | (refine AL.q rfl (OQ.load1 (ty := 3) rfl (by kernel_rfl) (by conv => lhs; whnf)) ?_)) | ((with_reducible refine AL.k_move ?_); first | (refine AL.q rfl (OQ.move (by conv => lhs; whnf)) ?_)) | ((with_reducible refine AL.k_binOp ?_); first | refine AL.q rfl (OQ.neq rfl rfl) ?_ | refine AL.q rfl (OQ.muli rfl rfl (by omega)) ?_ | refine AL.q rfl (OQ.mul rfl rfl) ?_ | refine AL.q rfl (OQ.addi rfl rfl (by omega)) ?_ | refine AL.q rfl (OQ.add rfl rfl) ?_ | refine AL.q rfl (OQ.eql rfl rfl) ?_) | ((with_reducible refine AL.k_assign ?_); first | (refine AL.q rfl (OQ.assign (by conv => lhs; whnf)) ?_)) | ((with_reducible refine AL.k_pick ?_); first | (refine AL.q rfl (OQ.pickT rfl (by with_reducible rfl) (by conv => lhs; whnf)) ?_) | (refine AL.q rfl (OQ.pickF rfl (by with_reducible rfl) (by conv => lhs; whnf)) ?_)) | ((with_reducible refine AL.k_indexAddr ?_); first | refine AL.q rfl (OQ.idxPtr (ty := 54) (n := 2) (l := 2) (g := true) rfl rfl (by kernel_rfl) (by omega) (by omega)) ?_) | ((with_reducible refine AL.k_unOp ?_); first | refine AL.q rfl (OQ.not rfl) ?_) | ((with_reducible refine AL.k_extract ?_); first | refine AL.q rfl (OQ.extract rfl rfl) ?_)); (conv => (arg 5; try simp only [T.put, T.ev, putAt, setsT, newBlks, fillL, List.map, List.set, List.append, List.cons_append, List.nil_append, List.length, List.getElem?_cons_zero, List.getElem?_cons_succ, Nat.reduceAdd, Nat.reduceMul, Nat.zero_add, Nat.add_zero, Nat.mul_one, Nat.zero_mul, List.drop, List.take, List.toList_toArray, Value.cells, Int.reduceToNat, Int.toNat_natCast, List.getD, Option.getD, Option.map, flat, flat1, scal, setAll, Int.reduceAdd, if_true, ↓reduceIte])))
      | ((first | ((with_reducible refine AL.k_call ?_); first | refine AL.pcall (g := 15) rfl (by kernel_rfl) rfl (HA _) ?_ | refine AL.pcall (g := 23) rfl (by kernel_rfl) rfl (H1 _) ?_ | refine AL.pcall (g := 24) rfl (by kernel_rfl) rfl ((by first | exact H2 _ | exact H3 _)) ?_) | ((with_reducible refine AL.k_build ?_); first | refine AL.q rfl (OQ.buildS (ty := 44) (zs := [.int .i64 0, .int .i64 0]) (pls := [(0, 1), (1, 1)]) (by kernel_rfl) rfl (by kernel_rfl) rfl rfl rfl) ?_)); (conv => (arg 5; try simp only [T.put, T.ev, putAt, setsT, newBlks, fillL, List.map, List.set, List.append, List.cons_append, List.nil_append, List.length, List.getElem?_cons_zero, List.getElem?_cons_succ, Nat.reduceAdd, Nat.reduceMul, Nat.zero_add, Nat.add_zero, Nat.mul_one, Nat.zero_mul, List.drop, List.take, List.toList_toArray, Value.cells, Int.reduceToNat, Int.toNat_natCast, List.getD, Option.getD, Option.map, flat, flat1, scal, setAll, Int.reduceAdd, if_true, ↓reduceIte])))
      | ((first | ((with_reducible refine AL.k_store ?_); first | (refine AL.w rfl (OW.store (ty := 44) (n := 2) rfl (by conv => lhs; whnf) rfl rfl (by kernel_rfl) rfl rfl (by decide) rfl (Nat.le_of_ble_eq_true rfl) (by intro r h; cases h)) ?_) | (refine AL.w rfl (OW.store (ty := 54) (n := 4) rfl (by conv => lhs; whnf) rfl rfl (by kernel_rfl) rfl rfl (by decide) rfl (Nat.le_of_ble_eq_true rfl) (by intro r h; cases h)) ?_)) | ((with_reducible refine AL.k_box ?_); first | (refine AL.w rfl (OW.box (by conv => lhs; whnf) (by intro r h; cases h)) ?_)) | ((with_reducible refine AL.k_alloc ?_); first | refine AL.w rfl (OW.alloc (ty := 54) (z := [.int .i64 0, .int .i64 0, .int .i64 0, .int .i64 0]) (by kernel_rfl) rfl) ?_)); (conv => (arg 5; try simp only [T.put, T.ev, putAt, setsT, newBlks, fillL, List.map, List.set, List.append, List.cons_append, List.nil_append, List.length, List.getElem?_cons_zero, List.getElem?_cons_succ, Nat.reduceAdd, Nat.reduceMul, Nat.zero_add, Nat.add_zero, Nat.mul_one, Nat.zero_mul, List.drop, List.take, List.toList_toArray, Value.cells, Int.reduceToNat, Int.toNat_natCast, List.getD, Option.getD, Option.map, flat, flat1, scal, setAll, Int.reduceAdd, if_true, ↓reduceIte])); (conv => (arg 6; try simp only [T.put, T.ev, putAt, setsT, newBlks, fillL, List.map, List.set, List.append, List.cons_append, List.nil_append, List.length, List.getElem?_cons_zero, List.getElem?_cons_succ, Nat.reduceAdd, Nat.reduceMul, Nat.zero_add, Nat.add_zero, Nat.mul_one, Nat.zero_mul, List.drop, List.take, List.toList_toArray, Value.cells, Int.reduceToNat, Int.toNat_natCast, List.getD, Option.getD, Option.map, flat, flat1, scal, setAll, Int.reduceAdd, if_true, ↓reduceIte])))
      | (refine AL.bs rfl (fun hc => ?_) (fun hc => ?_) <;> (fail_if_success (with_reducible exact lit_no hc)) <;> (try simp only [decide_eq_true_eq, decide_eq_false_iff_not, Bool.not_true, Bool.not_false, Bool.not_eq_true', Bool.not_eq_false', Int.not_lt, Int.not_le, Classical.not_not, ne_eq] at hc) <;> first | (exfalso; first | contradiction | (first | omega | (simp_all; done)); done) | (conv => (arg 5; try simp only [T.put, T.ev, putAt, setsT, newBlks, fillL, List.map, List.set, List.append, List.cons_append, List.nil_append, List.length, List.getElem?_cons_zero, List.getElem?_cons_succ, Nat.reduceAdd, Nat.reduceMul, Nat.zero_add, Nat.add_zero, Nat.mul_one, Nat.zero_mul, List.drop, List.take, List.toList_toArray, Value.cells, Int.reduceToNat, Int.toNat_natCast, List.getD, Option.getD, Option.map, flat, flat1, scal, setAll, Int.reduceAdd, if_true, ↓reduceIte])))
      | refine AL.nil ?_)
    | ((with_reducible refine AW.on ?_); first
      | refine AW.seq ?_
      | refine AW.skip ?_
      | refine AW.exit ?_
      | refine AW.ret ?_
      | refine AW.block ?_
      | (refine AW.region (id := 2) ?_; exfalso; first | omega | (simp_all; done); done)
      | (refine AW.region (id := 5) ?_; exfalso; first | omega | (simp_all; done); done)
      | refine AW.region ?_
      | (refine AW.conds rfl (fun hc => ?_) (fun hc => ?_) <;> (try simp only [decide_eq_true_eq, decide_eq_false_iff_not, Bool.not_true, Bool.not_false, Bool.not_eq_true', Bool.not_eq_false', Int.not_lt, Int.not_le, Classical.not_not, ne_eq] at hc) <;> first | (exfalso; first | contradiction | (first | omega | (simp_all; done)); done) | skip))
    | ((with_reducible refine FinP.on ?_); (first | refine FinP.ret (.tmp (by conv => lhs; whnf) .nil) ?_ rfl | refine FinP.end (.tmp (by conv => lhs; whnf) .nil) ?_ rfl); (try simp only [pack, List.drop, List.take]); all_goals (rfl)))
theorem SeriesSeen_0 (u e a b u' e' a' b' g g' fl fh sl sh l0 h0 l1 h1 : Int) (h : siEE u e a b u' e' a' b' = 0) (hg : -1000000 ≤ g ∧ g ≤ 1000000) (hg' : -1000000 ≤ g' ∧ g' ≤ 1000000)
    (hfl : (u * g + e * g') / 1000 = fl) (hfh : -(-(u * g + e * g') / 1000) = fh) (hsl : (u' * g + e' * g') / 1000 = sl) (hsh : -(-(u' * g + e' * g') / 1000) = sh)
    (HB : ∀ m, PCalls Try.prog 27 [siV u e fl fh u' e' sl sh] m (.tuple #[.agg #[.int .i64 l0, .int .i64 h0, .int .i64 l1, .int .i64 h1], .int .i64 0])) (q1 : rngB g l0 h0 = true) (q2 : rngB g' l1 h1 = true) :
    PCalls Try.prog 4 [siV u e a b u' e' a' b', .agg #[.int .i64 g, .int .i64 g']] [] (.bool true) := by
  have HA := awake_q
  have H1 := rCheckSights_q u e a b u' e' a' b'
  rw [h] at H1
  obtain ⟨j1, j2⟩ := siEE_ok h
  have k1 := siE_ok j1
  have k2 := siE_ok j2
  have m1 := mul_bd (a := u) (b := g) (A := 1000) (B := 1000000) (by decide) (by decide) k1.1 hg
  have m2 := mul_bd (a := e) (b := g') (A := 1000) (B := 1000000) (by decide) (by decide) k1.2.1 hg'
  have m3 := mul_bd (a := u') (b := g) (A := 1000) (B := 1000000) (by decide) (by decide) k2.1 hg
  have m4 := mul_bd (a := e') (b := g') (A := 1000) (B := 1000000) (by decide) (by decide) k2.2.1 hg'
  have H2 := rWithin_q g (-1000000) 1000000
  have H3 := rWithin_q g' (-1000000) 1000000
  have H4 := rWithin_q g l0 h0
  have H5 := rWithin_q g' l1 h1
  rw [rngB_true.2 hg] at H2
  rw [rngB_true.2 hg'] at H3
  rw [q1] at H4
  rw [q2] at H5
  have F1 := rFloor_q (u * g + e * g') 1000 (by decide) (by omega)
  have F2 := rFloor_q (u' * g + e' * g') 1000 (by decide) (by omega)
  have C1 := rCeil_q (u * g + e * g') 1000 (by decide) (by omega)
  have C2 := rCeil_q (u' * g + e' * g') 1000 (by decide) (by omega)
  rw [hfl] at F1
  rw [hfh] at C1
  rw [hsl] at F2
  rw [hsh] at C2
  refine PCalls.enter (t := [siV u e a b u' e' a' b', .agg #[.int .i64 g, .int .i64 g'], undef, undef, undef, undef, undef, undef, undef, undef, undef, undef, undef, undef, undef, undef, undef, undef, undef, undef, undef, undef, undef, undef, undef, undef, undef, undef, undef, undef, undef, undef, undef, undef, undef, undef, undef, undef, undef, undef, undef, undef, undef, undef, undef, undef, undef, undef, undef, undef, undef, undef, undef, undef, undef, undef, undef, undef, undef, undef, undef, undef, undef, undef, undef, undef, undef, undef, undef, undef, undef, undef, undef, undef, undef, undef, undef, undef, undef, undef, undef, undef, undef, undef, undef, undef, undef, undef, undef, undef, undef, undef, undef, undef, undef, undef, undef, undef, undef, undef]) Try.func4 rfl (ro_nil) rfl fun E => ?_
  repeat' (first
    | with_reducible refine Then.n ?_
    | with_reducible refine Then.r ?_
    | with_reducible refine Then.x ?_
    | with_reducible refine InB.n ?_
    | with_reducible refine InB.r ?_
    | with_reducible refine InB.hit ?_
    | with_reducible refine InB.miss (by decide) ?_
    | ((with_reducible refine AL.on ?_); first
      | (refine AL.gd rfl ?_; first | (refine AL.gskip rfl rfl ?_; (conv => (arg 5; try simp only [T.put, T.ev, putAt, setsT, newBlks, fillL, List.map, List.set, List.append, List.cons_append, List.nil_append, List.length, List.getElem?_cons_zero, List.getElem?_cons_succ, Nat.reduceAdd, Nat.reduceMul, Nat.zero_add, Nat.add_zero, Nat.mul_one, Nat.zero_mul, List.drop, List.take, List.toList_toArray, Value.cells, Int.reduceToNat, Int.toNat_natCast, List.getD, Option.getD, Option.map, flat, flat1, scal, setAll, Int.reduceAdd, if_true, ↓reduceIte]))) | (refine AL.gs1 rfl rfl (fun hc => ?_) (fun hc => ?_) <;> (try simp only [decide_eq_true_eq, decide_eq_false_iff_not, Bool.not_true, Bool.not_false, Bool.not_eq_true', Bool.not_eq_false', Int.not_lt, Int.not_le, Classical.not_not, ne_eq] at hc) <;> first | (exfalso; first | contradiction | (first | omega | (simp_all; done)); done) | (conv => (arg 5; try simp only [T.put, T.ev, putAt, setsT, newBlks, fillL, List.map, List.set, List.append, List.cons_append, List.nil_append, List.length, List.getElem?_cons_zero, List.getElem?_cons_succ, Nat.reduceAdd, Nat.reduceMul, Nat.zero_add, Nat.add_zero, Nat.mul_one, Nat.zero_mul, List.drop, List.take, List.toList_toArray, Value.cells, Int.reduceToNat, Int.toNat_natCast, List.getD, Option.getD, Option.map, flat, flat1, scal, setAll, Int.reduceAdd, if_true, ↓reduceIte]))) | (refine AL.gs0 rfl rfl (fun hc => ?_) (fun hc => ?_) <;> (try simp only [decide_eq_true_eq, decide_eq_false_iff_not, Bool.not_true, Bool.not_false, Bool.not_eq_true', Bool.not_eq_false', Int.not_lt, Int.not_le, Classical.not_not, ne_eq] at hc) <;> first | (exfalso; first | contradiction | (first | omega | (simp_all; done)); done) | (conv => (arg 5; try simp only [T.put, T.ev, putAt, setsT, newBlks, fillL, List.map, List.set, List.append, List.cons_append, List.nil_append, List.length, List.getElem?_cons_zero, List.getElem?_cons_succ, Nat.reduceAdd, Nat.reduceMul, Nat.zero_add, Nat.add_zero, Nat.mul_one, Nat.zero_mul, List.drop, List.take, List.toList_toArray, Value.cells, Int.reduceToNat, Int.toNat_natCast, List.getD, Option.getD, Option.map, flat, flat1, scal, setAll, Int.reduceAdd, if_true, ↓reduceIte]))))
      | ((first | ((with_reducible refine AL.k_fieldAddr ?_); first | refine AL.q rfl (OQ.fieldA (ty := 50) (i := 0) (n := 1) (off := 0) (g := false) rfl (by kernel_rfl) (by decide)) ?_ | refine AL.q rfl (OQ.fieldA (ty := 50) (i := 1) (n := 1) (off := 1) (g := false) rfl (by kernel_rfl) (by decide)) ?_ | refine AL.q rfl (OQ.fieldA (ty := 48) (i := 0) (n := 4) (off := 0) (g := true) rfl (by kernel_rfl) (by decide)) ?_ | refine AL.q rfl (OQ.fieldA (ty := 46) (i := 0) (n := 1) (off := 0) (g := false) rfl (by kernel_rfl) (by decide)) ?_ | refine AL.q rfl (OQ.fieldA (ty := 46) (i := 1) (n := 1) (off := 1) (g := false) rfl (by kernel_rfl) (by decide)) ?_ | refine AL.q rfl (OQ.fieldA (ty := 48) (i := 1) (n := 4) (off := 4) (g := true) rfl (by kernel_rfl) (by decide)) ?_ | refine AL.q rfl (OQ.fieldA (ty := 46) (i := 2) (n := 2) (off := 2) (g := true) rfl (by kernel_rfl) (by decide)) ?_ | refine AL.q rfl (OQ.fieldA (ty := 44) (i := 0) (n := 1) (off := 0) (g := false) rfl (by kernel_rfl) (by decide)) ?_ | refine AL.q rfl (OQ.fieldA (ty := 44) (i := 1) (n := 1) (off := 1) (g := false) rfl (by kernel_rfl) (by decide)) ?_) | ((with_reducible refine AL.k_load ?_); first | refine AL.q rfl (OQ.loadN (ty := 48) (n := 8) rfl (by kernel_rfl) (by kernel_rfl) rfl) ?_ | (refine AL.q rfl (OQ.load1 (ty := 3) rfl (by kernel_rfl) (by conv => lhs; whnf)) ?_)) | ((with_reducible refine AL.k_move ?_); first | (refine AL.q rfl (OQ.move (by conv => lhs; whnf)) ?_)) | ((with_reducible refine AL.k_binOp ?_); first | refine AL.q rfl (OQ.neq rfl rfl) ?_ | refine AL.q rfl (OQ.muli rfl rfl (by omega)) ?_ | refine AL.q rfl (OQ.mul rfl rfl) ?_ | refine AL.q rfl (OQ.addi rfl rfl (by omega)) ?_ | refine AL.q rfl (OQ.add rfl rfl) ?_ | refine AL.q rfl (OQ.eql rfl rfl) ?_) | ((with_reducible refine AL.k_assign ?_); first | (refine AL.q rfl (OQ.assign (by conv => lhs; whnf)) ?_)) | ((with_reducible refine AL.k_pick ?_); first | (refine AL.q rfl (OQ.pickT rfl (by with_reducible rfl) (by conv => lhs; whnf)) ?_) | (refine AL.q rfl (OQ.pickF rfl (by with_reducible rfl) (by conv => lhs; whnf)) ?_)) | ((with_reducible refine AL.k_indexAddr ?_); first | refine AL.q rfl (OQ.idxPtr (ty := 54) (n := 2) (l := 2) (g := true) rfl rfl (by kernel_rfl) (by omega) (by omega)) ?_) | ((with_reducible refine AL.k_unOp ?_); first | refine AL.q rfl (OQ.not rfl) ?_) | ((with_reducible refine AL.k_extract ?_); first | refine AL.q rfl (OQ.extract rfl rfl) ?_)); (conv => (arg 5; try simp only [T.put, T.ev, putAt, setsT, newBlks, fillL, List.map, List.set, List.append, List.cons_append, List.nil_append, List.length, List.getElem?_cons_zero, List.getElem?_cons_succ, Nat.reduceAdd, Nat.reduceMul, Nat.zero_add, Nat.add_zero, Nat.mul_one, Nat.zero_mul, List.drop, List.take, List.toList_toArray, Value.cells, Int.reduceToNat, Int.toNat_natCast, List.getD, Option.getD, Option.map, flat, flat1, scal, setAll, Int.reduceAdd, if_true, ↓reduceIte])))
      | ((first | ((with_reducible refine AL.k_call ?_); first | refine AL.pcall (g := 15) rfl (by kernel_rfl) rfl (HA _) ?_ | refine AL.pcall (g := 23) rfl (by kernel_rfl) rfl (H1 _) ?_ | refine AL.pcall (g := 24) rfl (by kernel_rfl) rfl ((by first | exact H2 _ | exact H3 _ | exact H4 _ | exact H5 _)) ?_ | refine AL.pcall (g := 25) rfl (by kernel_rfl) rfl ((by first | exact F1 _ | exact F2 _)) ?_ | refine AL.pcall (g := 26) rfl (by kernel_rfl) rfl ((by first | exact C1 _ | exact C2 _)) ?_ | refine AL.pcall (g := 27) rfl (by kernel_rfl) rfl (HB _) ?_) | ((with_reducible refine AL.k_build ?_); first | refine AL.q rfl (OQ.buildS (ty := 44) (zs := [.int .i64 0, .int .i64 0]) (pls := [(0, 1), (1, 1)]) (by kernel_rfl) rfl (by kernel_rfl) rfl rfl rfl) ?_)); (conv => (arg 5; try simp only [T.put, T.ev, putAt, setsT, newBlks, fillL, List.map, List.set, List.append, List.cons_append, List.nil_append, List.length, List.getElem?_cons_zero, List.getElem?_cons_succ, Nat.reduceAdd, Nat.reduceMul, Nat.zero_add, Nat.add_zero, Nat.mul_one, Nat.zero_mul, List.drop, List.take, List.toList_toArray, Value.cells, Int.reduceToNat, Int.toNat_natCast, List.getD, Option.getD, Option.map, flat, flat1, scal, setAll, Int.reduceAdd, if_true, ↓reduceIte])))
      | ((first | ((with_reducible refine AL.k_store ?_); first | (refine AL.w rfl (OW.store (ty := 44) (n := 2) rfl (by conv => lhs; whnf) rfl rfl (by kernel_rfl) rfl rfl (by decide) rfl (Nat.le_of_ble_eq_true rfl) (by intro r h; cases h)) ?_) | (refine AL.w rfl (OW.store (ty := 54) (n := 4) rfl (by conv => lhs; whnf) rfl rfl (by kernel_rfl) rfl rfl (by decide) rfl (Nat.le_of_ble_eq_true rfl) (by intro r h; cases h)) ?_)) | ((with_reducible refine AL.k_box ?_); first | (refine AL.w rfl (OW.box (by conv => lhs; whnf) (by intro r h; cases h)) ?_)) | ((with_reducible refine AL.k_alloc ?_); first | refine AL.w rfl (OW.alloc (ty := 54) (z := [.int .i64 0, .int .i64 0, .int .i64 0, .int .i64 0]) (by kernel_rfl) rfl) ?_)); (conv => (arg 5; try simp only [T.put, T.ev, putAt, setsT, newBlks, fillL, List.map, List.set, List.append, List.cons_append, List.nil_append, List.length, List.getElem?_cons_zero, List.getElem?_cons_succ, Nat.reduceAdd, Nat.reduceMul, Nat.zero_add, Nat.add_zero, Nat.mul_one, Nat.zero_mul, List.drop, List.take, List.toList_toArray, Value.cells, Int.reduceToNat, Int.toNat_natCast, List.getD, Option.getD, Option.map, flat, flat1, scal, setAll, Int.reduceAdd, if_true, ↓reduceIte])); (conv => (arg 6; try simp only [T.put, T.ev, putAt, setsT, newBlks, fillL, List.map, List.set, List.append, List.cons_append, List.nil_append, List.length, List.getElem?_cons_zero, List.getElem?_cons_succ, Nat.reduceAdd, Nat.reduceMul, Nat.zero_add, Nat.add_zero, Nat.mul_one, Nat.zero_mul, List.drop, List.take, List.toList_toArray, Value.cells, Int.reduceToNat, Int.toNat_natCast, List.getD, Option.getD, Option.map, flat, flat1, scal, setAll, Int.reduceAdd, if_true, ↓reduceIte])))
      | (refine AL.bs rfl (fun hc => ?_) (fun hc => ?_) <;> (fail_if_success (with_reducible exact lit_no hc)) <;> (try simp only [decide_eq_true_eq, decide_eq_false_iff_not, Bool.not_true, Bool.not_false, Bool.not_eq_true', Bool.not_eq_false', Int.not_lt, Int.not_le, Classical.not_not, ne_eq] at hc) <;> first | (exfalso; first | contradiction | (first | omega | (simp_all; done)); done) | (conv => (arg 5; try simp only [T.put, T.ev, putAt, setsT, newBlks, fillL, List.map, List.set, List.append, List.cons_append, List.nil_append, List.length, List.getElem?_cons_zero, List.getElem?_cons_succ, Nat.reduceAdd, Nat.reduceMul, Nat.zero_add, Nat.add_zero, Nat.mul_one, Nat.zero_mul, List.drop, List.take, List.toList_toArray, Value.cells, Int.reduceToNat, Int.toNat_natCast, List.getD, Option.getD, Option.map, flat, flat1, scal, setAll, Int.reduceAdd, if_true, ↓reduceIte])))
      | refine AL.nil ?_)
    | ((with_reducible refine AW.on ?_); first
      | refine AW.seq ?_
      | refine AW.skip ?_
      | refine AW.exit ?_
      | refine AW.ret ?_
      | refine AW.block ?_
      | (refine AW.region (id := 2) ?_; exfalso; first | omega | (simp_all; done); done)
      | (refine AW.region (id := 4) ?_; exfalso; first | omega | (simp_all; done); done)
      | (refine AW.region (id := 11) ?_; exfalso; first | omega | (simp_all; done); done)
      | refine AW.region ?_
      | (refine AW.conds rfl (fun hc => ?_) (fun hc => ?_) <;> (try simp only [decide_eq_true_eq, decide_eq_false_iff_not, Bool.not_true, Bool.not_false, Bool.not_eq_true', Bool.not_eq_false', Int.not_lt, Int.not_le, Classical.not_not, ne_eq] at hc) <;> first | (exfalso; first | contradiction | (first | omega | (simp_all; done)); done) | skip))
    | ((with_reducible refine FinP.on ?_); (first | refine FinP.ret (.tmp (by conv => lhs; whnf) .nil) ?_ rfl | refine FinP.end (.tmp (by conv => lhs; whnf) .nil) ?_ rfl); (try simp only [pack, List.drop, List.take]); all_goals (rfl)))
theorem SeriesSeen_d (u e a b u' e' a' b' g g' fl fh sl sh : Int) (h : siEE u e a b u' e' a' b' = 0) (hg : -1000000 ≤ g ∧ g ≤ 1000000) (hg' : -1000000 ≤ g' ∧ g' ≤ 1000000)
    (hfl : (u * g + e * g') / 1000 = fl) (hfh : -(-(u * g + e * g') / 1000) = fh) (hsl : (u' * g + e' * g') / 1000 = sl) (hsh : -(-(u' * g + e' * g') / 1000) = sh) (hs : siEE u e fl fh u' e' sl sh = 0) (hd : siD u e u' e' = 0) :
    PCalls Try.prog 4 [siV u e a b u' e' a' b', .agg #[.int .i64 g, .int .i64 g']] [] (.bool true) := by
  have HA := awake_q
  have H1 := rCheckSights_q u e a b u' e' a' b'
  rw [h] at H1
  obtain ⟨j1, j2⟩ := siEE_ok h
  have k1 := siE_ok j1
  have k2 := siE_ok j2
  have m1 := mul_bd (a := u) (b := g) (A := 1000) (B := 1000000) (by decide) (by decide) k1.1 hg
  have m2 := mul_bd (a := e) (b := g') (A := 1000) (B := 1000000) (by decide) (by decide) k1.2.1 hg'
  have m3 := mul_bd (a := u') (b := g) (A := 1000) (B := 1000000) (by decide) (by decide) k2.1 hg
  have m4 := mul_bd (a := e') (b := g') (A := 1000) (B := 1000000) (by decide) (by decide) k2.2.1 hg'
  have H2 := rWithin_q g (-1000000) 1000000
  have H3 := rWithin_q g' (-1000000) 1000000
  rw [rngB_true.2 hg] at H2
  rw [rngB_true.2 hg'] at H3
  have F1 := rFloor_q (u * g + e * g') 1000 (by decide) (by omega)
  have F2 := rFloor_q (u' * g + e' * g') 1000 (by decide) (by omega)
  have C1 := rCeil_q (u * g + e * g') 1000 (by decide) (by omega)
  have C2 := rCeil_q (u' * g + e' * g') 1000 (by decide) (by omega)
  rw [hfl] at F1
  rw [hfh] at C1
  rw [hsl] at F2
  rw [hsh] at C2
  have HB := Box_0 u e fl fh u' e' sl sh hs hd
  have HD := Determinant_q u e fl fh u' e' sl sh hs
  rw [hd] at HD
  refine PCalls.enter (t := [siV u e a b u' e' a' b', .agg #[.int .i64 g, .int .i64 g'], undef, undef, undef, undef, undef, undef, undef, undef, undef, undef, undef, undef, undef, undef, undef, undef, undef, undef, undef, undef, undef, undef, undef, undef, undef, undef, undef, undef, undef, undef, undef, undef, undef, undef, undef, undef, undef, undef, undef, undef, undef, undef, undef, undef, undef, undef, undef, undef, undef, undef, undef, undef, undef, undef, undef, undef, undef, undef, undef, undef, undef, undef, undef, undef, undef, undef, undef, undef, undef, undef, undef, undef, undef, undef, undef, undef, undef, undef, undef, undef, undef, undef, undef, undef, undef, undef, undef, undef, undef, undef, undef, undef, undef, undef, undef, undef, undef, undef]) Try.func4 rfl (ro_nil) rfl fun E => ?_
  repeat' (first
    | with_reducible refine Then.n ?_
    | with_reducible refine Then.r ?_
    | with_reducible refine Then.x ?_
    | with_reducible refine InB.n ?_
    | with_reducible refine InB.r ?_
    | with_reducible refine InB.hit ?_
    | with_reducible refine InB.miss (by decide) ?_
    | ((with_reducible refine AL.on ?_); first
      | (refine AL.gd rfl ?_; first | (refine AL.gskip rfl rfl ?_; (conv => (arg 5; try simp only [T.put, T.ev, putAt, setsT, newBlks, fillL, List.map, List.set, List.append, List.cons_append, List.nil_append, List.length, List.getElem?_cons_zero, List.getElem?_cons_succ, Nat.reduceAdd, Nat.reduceMul, Nat.zero_add, Nat.add_zero, Nat.mul_one, Nat.zero_mul, List.drop, List.take, List.toList_toArray, Value.cells, Int.reduceToNat, Int.toNat_natCast, List.getD, Option.getD, Option.map, flat, flat1, scal, setAll, Int.reduceAdd, if_true, ↓reduceIte]))) | (refine AL.gs1 rfl rfl (fun hc => ?_) (fun hc => ?_) <;> (try simp only [decide_eq_true_eq, decide_eq_false_iff_not, Bool.not_true, Bool.not_false, Bool.not_eq_true', Bool.not_eq_false', Int.not_lt, Int.not_le, Classical.not_not, ne_eq] at hc) <;> first | (exfalso; first | contradiction | (first | omega | (simp_all; done)); done) | (conv => (arg 5; try simp only [T.put, T.ev, putAt, setsT, newBlks, fillL, List.map, List.set, List.append, List.cons_append, List.nil_append, List.length, List.getElem?_cons_zero, List.getElem?_cons_succ, Nat.reduceAdd, Nat.reduceMul, Nat.zero_add, Nat.add_zero, Nat.mul_one, Nat.zero_mul, List.drop, List.take, List.toList_toArray, Value.cells, Int.reduceToNat, Int.toNat_natCast, List.getD, Option.getD, Option.map, flat, flat1, scal, setAll, Int.reduceAdd, if_true, ↓reduceIte]))) | (refine AL.gs0 rfl rfl (fun hc => ?_) (fun hc => ?_) <;> (try simp only [decide_eq_true_eq, decide_eq_false_iff_not, Bool.not_true, Bool.not_false, Bool.not_eq_true', Bool.not_eq_false', Int.not_lt, Int.not_le, Classical.not_not, ne_eq] at hc) <;> first | (exfalso; first | contradiction | (first | omega | (simp_all; done)); done) | (conv => (arg 5; try simp only [T.put, T.ev, putAt, setsT, newBlks, fillL, List.map, List.set, List.append, List.cons_append, List.nil_append, List.length, List.getElem?_cons_zero, List.getElem?_cons_succ, Nat.reduceAdd, Nat.reduceMul, Nat.zero_add, Nat.add_zero, Nat.mul_one, Nat.zero_mul, List.drop, List.take, List.toList_toArray, Value.cells, Int.reduceToNat, Int.toNat_natCast, List.getD, Option.getD, Option.map, flat, flat1, scal, setAll, Int.reduceAdd, if_true, ↓reduceIte]))))
      | ((first | ((with_reducible refine AL.k_fieldAddr ?_); first | refine AL.q rfl (OQ.fieldA (ty := 50) (i := 0) (n := 1) (off := 0) (g := false) rfl (by kernel_rfl) (by decide)) ?_ | refine AL.q rfl (OQ.fieldA (ty := 50) (i := 1) (n := 1) (off := 1) (g := false) rfl (by kernel_rfl) (by decide)) ?_ | refine AL.q rfl (OQ.fieldA (ty := 48) (i := 0) (n := 4) (off := 0) (g := true) rfl (by kernel_rfl) (by decide)) ?_ | refine AL.q rfl (OQ.fieldA (ty := 46) (i := 0) (n := 1) (off := 0) (g := false) rfl (by kernel_rfl) (by decide)) ?_ | refine AL.q rfl (OQ.fieldA (ty := 46) (i := 1) (n := 1) (off := 1) (g := false) rfl (by kernel_rfl) (by decide)) ?_ | refine AL.q rfl (OQ.fieldA (ty := 48) (i := 1) (n := 4) (off := 4) (g := true) rfl (by kernel_rfl) (by decide)) ?_ | refine AL.q rfl (OQ.fieldA (ty := 46) (i := 2) (n := 2) (off := 2) (g := true) rfl (by kernel_rfl) (by decide)) ?_ | refine AL.q rfl (OQ.fieldA (ty := 44) (i := 0) (n := 1) (off := 0) (g := false) rfl (by kernel_rfl) (by decide)) ?_ | refine AL.q rfl (OQ.fieldA (ty := 44) (i := 1) (n := 1) (off := 1) (g := false) rfl (by kernel_rfl) (by decide)) ?_) | ((with_reducible refine AL.k_load ?_); first | refine AL.q rfl (OQ.loadN (ty := 48) (n := 8) rfl (by kernel_rfl) (by kernel_rfl) rfl) ?_ | (refine AL.q rfl (OQ.load1 (ty := 3) rfl (by kernel_rfl) (by conv => lhs; whnf)) ?_)) | ((with_reducible refine AL.k_move ?_); first | (refine AL.q rfl (OQ.move (by conv => lhs; whnf)) ?_)) | ((with_reducible refine AL.k_binOp ?_); first | refine AL.q rfl (OQ.neq rfl rfl) ?_ | refine AL.q rfl (OQ.muli rfl rfl (by omega)) ?_ | refine AL.q rfl (OQ.mul rfl rfl) ?_ | refine AL.q rfl (OQ.addi rfl rfl (by omega)) ?_ | refine AL.q rfl (OQ.add rfl rfl) ?_ | refine AL.q rfl (OQ.eql rfl rfl) ?_) | ((with_reducible refine AL.k_assign ?_); first | (refine AL.q rfl (OQ.assign (by conv => lhs; whnf)) ?_)) | ((with_reducible refine AL.k_pick ?_); first | (refine AL.q rfl (OQ.pickT rfl (by with_reducible rfl) (by conv => lhs; whnf)) ?_) | (refine AL.q rfl (OQ.pickF rfl (by with_reducible rfl) (by conv => lhs; whnf)) ?_)) | ((with_reducible refine AL.k_indexAddr ?_); first | refine AL.q rfl (OQ.idxPtr (ty := 54) (n := 2) (l := 2) (g := true) rfl rfl (by kernel_rfl) (by omega) (by omega)) ?_) | ((with_reducible refine AL.k_unOp ?_); first | refine AL.q rfl (OQ.not rfl) ?_) | ((with_reducible refine AL.k_extract ?_); first | refine AL.q rfl (OQ.extract rfl rfl) ?_)); (conv => (arg 5; try simp only [T.put, T.ev, putAt, setsT, newBlks, fillL, List.map, List.set, List.append, List.cons_append, List.nil_append, List.length, List.getElem?_cons_zero, List.getElem?_cons_succ, Nat.reduceAdd, Nat.reduceMul, Nat.zero_add, Nat.add_zero, Nat.mul_one, Nat.zero_mul, List.drop, List.take, List.toList_toArray, Value.cells, Int.reduceToNat, Int.toNat_natCast, List.getD, Option.getD, Option.map, flat, flat1, scal, setAll, Int.reduceAdd, if_true, ↓reduceIte])))
      | ((first | ((with_reducible refine AL.k_call ?_); first | refine AL.pcall (g := 15) rfl (by kernel_rfl) rfl (HA _) ?_ | refine AL.pcall (g := 23) rfl (by kernel_rfl) rfl (H1 _) ?_ | refine AL.pcall (g := 24) rfl (by kernel_rfl) rfl ((by first | exact H2 _ | exact H3 _)) ?_ | refine AL.pcall (g := 25) rfl (by kernel_rfl) rfl ((by first | exact F1 _ | exact F2 _)) ?_ | refine AL.pcall (g := 26) rfl (by kernel_rfl) rfl ((by first | exact C1 _ | exact C2 _)) ?_ | refine AL.pcall (g := 27) rfl (by kernel_rfl) rfl (HB _) ?_ | refine AL.pcall (g := 28) rfl (by kernel_rfl) rfl (HD _) ?_) | ((with_reducible refine AL.k_build ?_); first | refine AL.q rfl (OQ.buildS (ty := 44) (zs := [.int .i64 0, .int .i64 0]) (pls := [(0, 1), (1, 1)]) (by kernel_rfl) rfl (by kernel_rfl) rfl rfl rfl) ?_)); (conv => (arg 5; try simp only [T.put, T.ev, putAt, setsT, newBlks, fillL, List.map, List.set, List.append, List.cons_append, List.nil_append, List.length, List.getElem?_cons_zero, List.getElem?_cons_succ, Nat.reduceAdd, Nat.reduceMul, Nat.zero_add, Nat.add_zero, Nat.mul_one, Nat.zero_mul, List.drop, List.take, List.toList_toArray, Value.cells, Int.reduceToNat, Int.toNat_natCast, List.getD, Option.getD, Option.map, flat, flat1, scal, setAll, Int.reduceAdd, if_true, ↓reduceIte])))
      | ((first | ((with_reducible refine AL.k_store ?_); first | (refine AL.w rfl (OW.store (ty := 44) (n := 2) rfl (by conv => lhs; whnf) rfl rfl (by kernel_rfl) rfl rfl (by decide) rfl (Nat.le_of_ble_eq_true rfl) (by intro r h; cases h)) ?_) | (refine AL.w rfl (OW.store (ty := 54) (n := 4) rfl (by conv => lhs; whnf) rfl rfl (by kernel_rfl) rfl rfl (by decide) rfl (Nat.le_of_ble_eq_true rfl) (by intro r h; cases h)) ?_)) | ((with_reducible refine AL.k_box ?_); first | (refine AL.w rfl (OW.box (by conv => lhs; whnf) (by intro r h; cases h)) ?_)) | ((with_reducible refine AL.k_alloc ?_); first | refine AL.w rfl (OW.alloc (ty := 54) (z := [.int .i64 0, .int .i64 0, .int .i64 0, .int .i64 0]) (by kernel_rfl) rfl) ?_)); (conv => (arg 5; try simp only [T.put, T.ev, putAt, setsT, newBlks, fillL, List.map, List.set, List.append, List.cons_append, List.nil_append, List.length, List.getElem?_cons_zero, List.getElem?_cons_succ, Nat.reduceAdd, Nat.reduceMul, Nat.zero_add, Nat.add_zero, Nat.mul_one, Nat.zero_mul, List.drop, List.take, List.toList_toArray, Value.cells, Int.reduceToNat, Int.toNat_natCast, List.getD, Option.getD, Option.map, flat, flat1, scal, setAll, Int.reduceAdd, if_true, ↓reduceIte])); (conv => (arg 6; try simp only [T.put, T.ev, putAt, setsT, newBlks, fillL, List.map, List.set, List.append, List.cons_append, List.nil_append, List.length, List.getElem?_cons_zero, List.getElem?_cons_succ, Nat.reduceAdd, Nat.reduceMul, Nat.zero_add, Nat.add_zero, Nat.mul_one, Nat.zero_mul, List.drop, List.take, List.toList_toArray, Value.cells, Int.reduceToNat, Int.toNat_natCast, List.getD, Option.getD, Option.map, flat, flat1, scal, setAll, Int.reduceAdd, if_true, ↓reduceIte])))
      | (refine AL.bs rfl (fun hc => ?_) (fun hc => ?_) <;> (fail_if_success (with_reducible exact lit_no hc)) <;> (try simp only [decide_eq_true_eq, decide_eq_false_iff_not, Bool.not_true, Bool.not_false, Bool.not_eq_true', Bool.not_eq_false', Int.not_lt, Int.not_le, Classical.not_not, ne_eq] at hc) <;> first | (exfalso; first | contradiction | (first | omega | (simp_all; done)); done) | (conv => (arg 5; try simp only [T.put, T.ev, putAt, setsT, newBlks, fillL, List.map, List.set, List.append, List.cons_append, List.nil_append, List.length, List.getElem?_cons_zero, List.getElem?_cons_succ, Nat.reduceAdd, Nat.reduceMul, Nat.zero_add, Nat.add_zero, Nat.mul_one, Nat.zero_mul, List.drop, List.take, List.toList_toArray, Value.cells, Int.reduceToNat, Int.toNat_natCast, List.getD, Option.getD, Option.map, flat, flat1, scal, setAll, Int.reduceAdd, if_true, ↓reduceIte])))
      | refine AL.nil ?_)
    | ((with_reducible refine AW.on ?_); first
      | refine AW.seq ?_
      | refine AW.skip ?_
      | refine AW.exit ?_
      | refine AW.ret ?_
      | refine AW.block ?_
      | (refine AW.region (id := 2) ?_; exfalso; first | omega | (simp_all; done); done)
      | (refine AW.region (id := 4) ?_; exfalso; first | omega | (simp_all; done); done)
      | (refine AW.region (id := 12) ?_; exfalso; first | omega | (simp_all; done); done)
      | refine AW.region ?_
      | (refine AW.conds rfl (fun hc => ?_) (fun hc => ?_) <;> (try simp only [decide_eq_true_eq, decide_eq_false_iff_not, Bool.not_true, Bool.not_false, Bool.not_eq_true', Bool.not_eq_false', Int.not_lt, Int.not_le, Classical.not_not, ne_eq] at hc) <;> first | (exfalso; first | contradiction | (first | omega | (simp_all; done)); done) | skip))
    | ((with_reducible refine FinP.on ?_); (first | refine FinP.ret (.tmp (by conv => lhs; whnf) .nil) ?_ rfl | refine FinP.end (.tmp (by conv => lhs; whnf) .nil) ?_ rfl); (try simp only [pack, List.drop, List.take]); all_goals (rfl)))
/-- Four products' least and greatest: between them lies what is between the factors. -/
theorem mn4_le {a b c d : Int} : mn4 a b c d ≤ a ∧ mn4 a b c d ≤ b ∧ mn4 a b c d ≤ c ∧ mn4 a b c d ≤ d := by
  unfold mn4 mn
  split <;> split <;> split <;> omega
theorem mx4_ge {a b c d : Int} : a ≤ mx4 a b c d ∧ b ≤ mx4 a b c d ∧ c ≤ mx4 a b c d ∧ d ≤ mx4 a b c d := by
  unfold mx4 mx
  split <;> split <;> split <;> omega
/-- x between the ends of a range, times e, less y between the ends of another one, times k. -/
theorem corner {e k fl fh sl sh A B : Int} (h1 : 1000 * fl ≤ A) (h2 : A ≤ 1000 * fh) (h3 : 1000 * sl ≤ B) (h4 : B ≤ 1000 * sh) :
    ∃ f s, (f = fl ∨ f = fh) ∧ (s = sl ∨ s = sh) ∧ 1000 * (f * e - s * k) ≤ A * e - B * k := by
  have hf : ∃ f, (f = fl ∨ f = fh) ∧ 1000 * (f * e) ≤ A * e := by
    rcases Int.le_total 0 e with h | h
    · exact ⟨fl, .inl rfl, by rw [← Int.mul_assoc]; exact Int.mul_le_mul_of_nonneg_right h1 h⟩
    · exact ⟨fh, .inr rfl, by rw [← Int.mul_assoc]; exact Int.mul_le_mul_of_nonpos_right h2 h⟩
  have hs : ∃ s, (s = sl ∨ s = sh) ∧ B * k ≤ 1000 * (s * k) := by
    rcases Int.le_total 0 k with h | h
    · exact ⟨sh, .inr rfl, by rw [← Int.mul_assoc]; exact Int.mul_le_mul_of_nonneg_right h4 h⟩
    · exact ⟨sl, .inl rfl, by rw [← Int.mul_assoc]; exact Int.mul_le_mul_of_nonpos_right h3 h⟩
  obtain ⟨f, hf1, hf2⟩ := hf
  obtain ⟨s, hs1, hs2⟩ := hs
  exact ⟨f, s, hf1, hs1, by omega⟩
theorem corner' {e k fl fh sl sh A B : Int} (h1 : 1000 * fl ≤ A) (h2 : A ≤ 1000 * fh) (h3 : 1000 * sl ≤ B) (h4 : B ≤ 1000 * sh) :
    ∃ f s, (f = fl ∨ f = fh) ∧ (s = sl ∨ s = sh) ∧ A * e - B * k ≤ 1000 * (f * e - s * k) := by
  obtain ⟨f, s, h5, h6, h7⟩ := corner (e := -e) (k := -k) h1 h2 h3 h4
  refine ⟨f, s, h5, h6, ?_⟩
  simp only [Int.mul_neg] at h7
  omega
/-- A number lies between the rounded quotients. -/
theorem in_box {p0 p1 p2 p3 d g : Int} (hd : 0 < d) (h1 : p0 ≤ d * g ∨ p1 ≤ d * g ∨ p2 ≤ d * g ∨ p3 ≤ d * g) (h2 : d * g ≤ p0 ∨ d * g ≤ p1 ∨ d * g ≤ p2 ∨ d * g ≤ p3) : rngB g (mn4 p0 p1 p2 p3 / d) (-(-mx4 p0 p1 p2 p3 / d)) = true := by
  have k1 := mn4_le (a := p0) (b := p1) (c := p2) (d := p3)
  have k2 := mx4_ge (a := p0) (b := p1) (c := p2) (d := p3)
  have l1 : mn4 p0 p1 p2 p3 ≤ g * d := by rw [Int.mul_comm]; omega
  have l2 : -mx4 p0 p1 p2 p3 ≤ -g * d := by rw [Int.neg_mul, Int.mul_comm]; omega
  refine rngB_true.2 ⟨?_, ?_⟩
  · have := Int.ediv_le_ediv hd l1
    rwa [Int.mul_ediv_cancel _ (by omega)] at this
  · have := Int.ediv_le_ediv hd l2
    rw [Int.mul_ediv_cancel _ (by omega)] at this
    omega
end Go.Proofs.Ytnocdnhhlppahaa
end

section
namespace Go.Proofs.Ytnocdnhhlppahaa.SeriesSeen
open Go.ChangeShapes Go.WideShapes Go.ChangeAt Go Go.RowKit Go.Ab Go.Sr Go.Proofs.Ytnocdnhhlppahaa
set_option maxRecDepth 100000

theorem siE_mk {u e a b : Int} (h1 : -1000 ≤ u ∧ u ≤ 1000) (h2 : -1000 ≤ e ∧ e ≤ 1000) (h3 : -1000000000 ≤ a) (h4 : b ≤ 1000000000) (h5 : a ≤ b) : siE u e a b = 0 := by
  unfold siE
  rw [if_pos ⟨rngB_true.2 h1, rngB_true.2 h2, rngB_true.2 (by omega), rngB_true.2 (by omega)⟩, if_neg (by omega)]
theorem walk (u e a b u' e' a' b' g g' : Int) (W : World) : Calls Try.prog 4 #[siV u e a b u' e' a' b', .agg #[.int .i64 g, .int .i64 g']] W fun e w' => e = .returned (.bool true) ∧ Below W.heap.size W w' := by
  refine glue0 (us := [_, _]) rfl ?_
  by_cases h : siEE u e a b u' e' a' b' = 0
  case neg => exact SeriesSeen_n u e a b u' e' a' b' g g' (.inl h)
  cases hgg : rngB g (-1000000) 1000000 && rngB g' (-1000000) 1000000 with
  | false => exact SeriesSeen_n u e a b u' e' a' b' g g' (.inr hgg)
  | true =>
    simp only [Bool.and_eq_true, rngB_true] at hgg
    obtain ⟨hg, hg'⟩ := hgg
    obtain ⟨j1, j2⟩ := siEE_ok h
    have k1 := siE_ok j1
    have k2 := siE_ok j2
    have m1 := mul_bd (a := u) (b := g) (A := 1000) (B := 1000000) (by decide) (by decide) k1.1 hg
    have m2 := mul_bd (a := e) (b := g') (A := 1000) (B := 1000000) (by decide) (by decide) k1.2.1 hg'
    have m3 := mul_bd (a := u') (b := g) (A := 1000) (B := 1000000) (by decide) (by decide) k2.1 hg
    have m4 := mul_bd (a := e') (b := g') (A := 1000) (B := 1000000) (by decide) (by decide) k2.2.1 hg'
    have idU : siD u e u' e' * g = (u * g + e * g') * e' - (u' * g + e' * g') * e := by unfold siD; grind
    have idE : siD u e u' e' * g' = (u * g + e * g') * (-u') - (u' * g + e' * g') * (-u) := by unfold siD; grind
    have a1 : 1000 * ((u * g + e * g') / 1000) ≤ u * g + e * g' := by omega
    have a2 : u * g + e * g' ≤ 1000 * -(-(u * g + e * g') / 1000) := by omega
    have a3 : 1000 * ((u' * g + e' * g') / 1000) ≤ u' * g + e' * g' := by omega
    have a4 : u' * g + e' * g' ≤ 1000 * -(-(u' * g + e' * g') / 1000) := by omega
    have hs : siEE u e ((u * g + e * g') / 1000) (-(-(u * g + e * g') / 1000)) u' e' ((u' * g + e' * g') / 1000) (-(-(u' * g + e' * g') / 1000)) = 0 := by
      unfold siEE
      rw [siE_mk k1.1 k1.2.1 (by omega) (by omega) (by omega), if_pos rfl]
      exact siE_mk k2.1 k2.2.1 (by omega) (by omega) (by omega)
    have H0 := SeriesSeen_0 u e a b u' e' a' b' g g' _ _ _ _ (h := h) (hg := hg) (hg' := hg') (hfl := rfl) (hfh := rfl) (hsl := rfl) (hsh := rfl)
    have Hd := SeriesSeen_d u e a b u' e' a' b' g g' _ _ _ _ h hg hg' rfl rfl rfl rfl hs
    generalize hA : u * g + e * g' = A at *
    generalize hB : u' * g + e' * g' = B at *
    generalize A / 1000 = fl at *
    generalize -(-A / 1000) = fh at *
    generalize B / 1000 = sl at *
    generalize -(-B / 1000) = sh at *
    obtain ⟨f, s, cf, cs, c1⟩ := corner (e := e') (k := e) a1 a2 a3 a4
    obtain ⟨f', s', cf', cs', c2⟩ := corner' (e := e') (k := e) a1 a2 a3 a4
    obtain ⟨f2, s2, cf2, cs2, c3⟩ := corner (e := -u') (k := -u) a1 a2 a3 a4
    obtain ⟨f3, s3, cf3, cs3, c4⟩ := corner' (e := -u') (k := -u) a1 a2 a3 a4
    simp only [Int.mul_neg] at c3 c4 idE
    have lU : ∀ f s, f * e' - s * e = bU e e' f s := fun _ _ => rfl
    have lE : ∀ f s, -(f * u') - -(s * u) = bE u u' f s := fun f s => by unfold bE; omega
    rw [lU f s] at c1
    rw [lU f' s'] at c2
    rw [lE f2 s2] at c3
    rw [lE f3 s3] at c4
    by_cases hd : siD u e u' e' = 0
    · exact Hd hd
    · rcases Int.lt_or_gt_of_ne hd with hd | hd
      · refine H0 _ _ _ _ (Box_neg _ _ _ _ _ _ _ _ hs (by omega)) (in_box (by omega) ?_ ?_) (in_box (by omega) ?_ ?_)
        all_goals rw [Int.neg_mul]
        · rw [idU]
          rcases cf' with rfl | rfl <;> rcases cs' with rfl | rfl <;> omega
        · rw [idU]
          rcases cf with rfl | rfl <;> rcases cs with rfl | rfl <;> omega
        · rw [idE]
          rcases cf3 with rfl | rfl <;> rcases cs3 with rfl | rfl <;> omega
        · rw [idE]
          rcases cf2 with rfl | rfl <;> rcases cs2 with rfl | rfl <;> omega
      · refine H0 _ _ _ _ (Box_pos _ _ _ _ _ _ _ _ hs hd) (in_box hd ?_ ?_) (in_box hd ?_ ?_)
        · rw [idU]
          rcases cf with rfl | rfl <;> rcases cs with rfl | rfl <;> omega
        · rw [idU]
          rcases cf' with rfl | rfl <;> rcases cs' with rfl | rfl <;> omega
        · rw [idE]
          rcases cf2 with rfl | rfl <;> rcases cs2 with rfl | rfl <;> omega
        · rw [idE]
          rcases cf3 with rfl | rfl <;> rcases cs3 with rfl | rfl <;> omega

set_option maxRecDepth 100000 in
theorem lifted (os : Os) (started : os.Started) (H : Type) (enc : TypeId × Value → H) :
    ReturnsInHanded {} Try.checked os 4 .any (Rows.seriesSeenSpec.pre6 enc Try.prog Try.f4 Rows.seriesSeenRow.domain false) (Rows.seriesSeenSpec.post enc Try.prog Try.f4 false true false false) := by
  refine returnsInHanded_of_change (C := Try.checked) own started (by kernel_rfl) Try.func4
    (ChangeSpec.witness6 (enc := enc) (C := Try.checked) false ⟨#[], #[.agg #[.int .i64 0, .int .i64 0, .int .i64 0, .int .i64 0, .int .i64 0, .int .i64 0, .int .i64 0, .int .i64 0], .agg #[.int .i64 0, .int .i64 0]], []⟩ 8 (by kernel_rfl) (by kernel_rfl) (by kernel_rfl) (by kernel_rfl)) ?_
  intro W base args ds gs before hval0 hW hcnd _
  have hval : ∀ (j : Nat) t v, Try.f4.params[j]? = some t → args[j]? = some v → Value.okWide Try.prog W .any base t v := hval0
  have hW' := hW
  obtain ⟨p, q, hA0, hV, rfl, hfz, hnd⟩ := hW
  have hA : DataW.TrodAll enc Try.prog W 0 (fun _ => true) true Try.f4.params.toList args.toList ds p := hA0
  rw [Try.params4] at hA hval
  obtain ⟨v0, vs0, d0, ds0, p0, q0, hargs, rfl, rfl, h0, r0⟩ := trodAll_cons hA
  obtain ⟨v1, vs1, d1, ds1, p1, q1, rfl, rfl, rfl, h1, r1⟩ := trodAll_cons r0
  obtain ⟨rfl, rfl, rfl⟩ := trodAll_nil r1
  obtain rfl : args = #[v0, v1] := by cases args; simp_all
  obtain ⟨rfl, rfl⟩ := trodVars_none hV
  clear hA0 hval0
  have hlt := hW'.lt
  have g0 := h0
  have g1 := h1
  obtain ⟨x0_0, x1_0, x2_0, x3_0, x4_0, x5_0, x6_0, x7_0, rfl, hx0_0, hx1_0, hx2_0, hx3_0, hx4_0, hx5_0, hx6_0, hx7_0⟩ := open_T (hval 0 48 v0 rfl rfl) h0
  obtain ⟨x0_1, x1_1, rfl, hx0_1, hx1_1⟩ := open_G (hval 1 50 v1 rfl rfl) h1
  simp only [List.append_nil] at hW' hlt ⊢
  refine (walk x0_0 x1_0 x2_0 x3_0 x4_0 x5_0 x6_0 x7_0 x0_1 x1_1 W).mono fun e W' ⟨he, hb⟩ => ?_
  subst he
  have stay : ∀ (t : TypeId) v d ps (sp : Nat → Bool), Try.prog.readableRec t = true → t < Try.prog.types.size → DataW.Trod enc Try.prog W 0 (fun _ => true) true t v d ps → (∀ x ∈ ps, x.block < W.heap.size) → (∀ x ∈ ps, sp x.block = true) → DataW.Trod enc Try.prog W' 0 sp true t v d ps :=
    fun t v d ps sp hr ht h hx hs => Go.WideElems.Trod_stays laid hr ht h (fun x hxp => hb.same (hx x hxp)) hs
  exact ⟨_, rfl, post_below (pa := p0 ++ (p1 ++ [])) (pv := []) hW' (fun _ _ _ => trodAll_mk1 (shut_bool Try.underlying4 true)) (fun sp hs => (trodAll_cons_mk (stay 48 _ _ _ sp (by kernel_rfl) (of_decide_eq_true (by kernel_rfl)) g0 (fun x hx => hlt x (by simp [hx])) (fun x hx => hs x (by simp [hx]))) (trodAll_cons_mk (stay 50 _ _ _ sp (by kernel_rfl) (of_decide_eq_true (by kernel_rfl)) g1 (fun x hx => hlt x (by simp [hx])) (fun x hx => hs x (by simp [hx]))) (trodAll_mk0)))) (fun _ _ => rfl) (by simp)
    hb (ok_one (by kernel_rfl) rfl (okWide_bool_mk Try.underlying4 true))⟩

theorem over : Rows.seriesSeenRow.holds Try.pinned (OpenSpec.ofChange Rows.seriesSeenSpec) :=
  OpenClaim.holds_of_wide 4 Try.f4 rfl rfl rfl rfl rfl rfl rfl ⟨rfl, rfl, rfl, rfl, rfl⟩ rfl rfl rfl rfl rfl (by kernel_rfl) Try.func4 (by kernel_rfl)
    (of_decide_eq_true (by kernel_rfl)) (by unfold Func.isWrapper; first | (rw [if_pos (by decide +kernel)]; kernel_rfl) | (rw [if_neg (by decide +kernel)]; exact ⟨rfl, rfl⟩))
    (fun os started H enc _ => lifted os started H enc)

/-- The statement. -/
theorem proved : Rows.SeriesSeenSaid := over
#print axioms proved
end Go.Proofs.Ytnocdnhhlppahaa.SeriesSeen
end
