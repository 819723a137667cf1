/- Chapter 2: Passes of the program. -/
import Derived.Test.Ytaoennekamlfeaa02Rg3
set_option linter.unusedSimpArgs false
set_option linter.unusedVariables false
namespace Go.Proofs.Ytaoennekamlfeaa
open Go Go.RowKit Go.Ob Go.Ab
set_option maxRecDepth 100000
set_option maxHeartbeats 1000000

theorem ro_of {m : Mem} (h : m.all (fun o => match o with | some b => !b.own | none => true) = true) : Mem.ro m := fun k blk hk => by
  have hl := Mem.at_lt hk
  have : m[k]? = some (some blk) := by
    unfold Mem.at at hk
    rw [List.getD_eq_getElem?_getD, List.getElem?_eq_getElem hl] at hk
    rw [List.getElem?_eq_getElem hl]
    simpa using hk
  have := List.all_eq_true.1 h _ (List.mem_of_getElem? this)
  simpa using this

theorem bound_q (n lo hi : Int) (m : Mem) : PCalls Try.prog 70 [.int .i64 n, .int .i64 lo, .int .i64 hi] m (.int .i64 (Ob.bnd n lo hi)) := PCalls.of_same rfl rfl fun w => bound_any n lo hi w
theorem fE3 {a e f g : Int} (h : (if e = 0 then (if f = 0 then g else f) else e) = a) : Value.int .i64 a = .int .i64 (firstE [e, f, g]) := by
  rw [← h]
  unfold firstE firstE firstE firstE
  by_cases h1 : e = 0 <;> by_cases h2 : f = 0 <;> by_cases h3 : g = 0 <;> simp [h1, h2, h3]
section
attribute [local irreducible] OQ OW AL AW AD AF SW
theorem first3_c (e f g : Int) (z c : Nat) : PCalls Try.prog 68 [.slice (some ⟨0, 0, none⟩) 3 c] [some ⟨[.int .i64 e, .int .i64 f, .int .i64 g], false, z⟩] (.int .i64 (firstE [e, f, g])) := by
  refine PCalls.enter (t := [.slice (some ⟨0, 0, none⟩) 3 c, undef, undef, undef, undef, undef, undef, undef, undef, undef, undef, undef, undef, undef, undef]) Try.func68 rfl (ro1 _ rfl) rfl fun E => ?_
  repeat' (first
    | with_reducible refine Then.n ?_
    | with_reducible refine Then.r ?_
    | with_reducible refine Then.x ?_
    | with_reducible refine InB.n ?_
    | with_reducible refine InB.r ?_
    | with_reducible refine InB.hit ?_
    | with_reducible refine InB.miss (by decide) ?_
    | ((with_reducible refine AL.on ?_); first
      | ((first | ((with_reducible refine AL.k_move ?_); first | (refine AL.q rfl (OQ.move (by conv => lhs; whnf)) ?_)) | ((with_reducible refine AL.k_assign ?_); first | (refine AL.q rfl (OQ.assign (by conv => lhs; whnf)) ?_)) | ((with_reducible refine AL.k_binOp ?_); first | refine AL.q rfl (OQ.lss rfl rfl) ?_ | refine AL.q rfl (OQ.neq rfl rfl) ?_ | refine AL.q rfl (OQ.addi rfl rfl (by omega)) ?_ | refine AL.q rfl (OQ.add rfl rfl) ?_) | ((with_reducible refine AL.k_call ?_); first | refine AL.q rfl (OQ.lenS (xt := 162) (r := (none, 1, false)) rfl (by kernel_rfl)) ?_) | ((with_reducible refine AL.k_indexAddr ?_); first | refine AL.q rfl (OQ.idxAddr (ty := 162) (z := 1) (g := false) rfl rfl (by kernel_rfl) (by omega) (by omega)) ?_) | ((with_reducible refine AL.k_load ?_); first | (refine AL.q rfl (OQ.load1 (ty := 30) rfl (by kernel_rfl) (by conv => lhs; whnf)) ?_))); (conv => (arg 5; try simp only [T.put, T.ev, putAt, setsT, newBlks, fillL, List.map, List.set, List.append, List.cons_append, List.nil_append, List.length, List.getElem?_cons_zero, List.getElem?_cons_succ, Nat.reduceAdd, Nat.reduceMul, Nat.zero_add, Nat.add_zero, Nat.mul_one, Nat.zero_mul, List.drop, List.take, List.toList_toArray, Value.cells, Int.reduceToNat, Int.toNat_natCast, List.getD, Option.getD, Option.map, flat, flat1, scal, if_true, ↓reduceIte])))
      | refine AL.nil ?_)
    | ((with_reducible refine AW.on ?_); first
      | refine AW.seq ?_
      | refine AW.skip ?_
      | refine AW.exit ?_
      | refine AW.ret ?_
      | (refine AW.block (id := 0) ?_; refine AW.unroll 4 ?_)
      | refine AW.block ?_
      | refine AW.region ?_
      | (refine AW.conds rfl (fun hc => ?_) (fun hc => ?_) <;> (try simp only [decide_eq_true_eq, decide_eq_false_iff_not, Bool.not_true, Bool.not_false, Bool.not_eq_true', Bool.not_eq_false', Int.not_lt, Int.not_le, Classical.not_not, ne_eq] at hc) <;> first | (exfalso; first | contradiction | (omega); done) | skip))
    | with_reducible refine AR.s ?_
    | ((with_reducible refine AR.out ?_); omega; done)
    | ((with_reducible refine FinP.on ?_); (first | refine FinP.ret (.tmp (by conv => lhs; whnf) .nil) ?_ rfl | refine FinP.end (.tmp (by conv => lhs; whnf) .nil) ?_ rfl); (try simp only [pack, List.drop, List.take]); all_goals (refine fE3 ?_; simp_all)))
end
theorem first3_q {m : Mem} {b c : Nat} {blk : Blk} (e f g : Int) (hb : m.at b = some blk) (hc : blk.cells = [.int .i64 e, .int .i64 f, .int .i64 g]) : PCalls Try.prog 68 [.slice (some ⟨b, 0, none⟩) 3 c] m (.int .i64 (firstE [e, f, g])) :=
  PCalls.via1 (fun z => first3_c e f g z c) hb hc rfl rfl rfl rfl rfl
theorem ticks_q {m : Mem} {v : Value} {l : List St} {nm : ByteArray} {bd : Int} (hS : SlB m v l) (ho : Ors nm l) (hR : Right bd l) : PCalls Try.prog 72 [obW nm bd v] m (.agg #[.int .i64 (frstT l), .int .i64 (lastT l)]) :=
  of_sl hS ho rfl rfl fun w a cap hO => by
    obtain ⟨b, off, rfl, hbw, hmem⟩ := hO.mem hR
    exact ticks_any nm bd b off cap l w hmem hbw (by have := hR.n2; omega) (by have := hR.n40; omega) hO.cap

/-- The orbit as a path, the place, the bound: what the test of Passes reads. -/
abbrev psM (nm : ByteArray) (bd x y z mo : Int) (l : List St) (z0 : Nat) : Mem := [some ⟨flatS l, false, z0⟩, some ⟨[.int .i64 x, .int .i64 y, .int .i64 z], false, 0⟩, some ⟨[.int .i64 mo], false, 0⟩, some ⟨[.string nm, .int .i64 bd, .slice (some ⟨0, 0, none⟩) l.length INF], false, 0⟩]
section
attribute [local irreducible] OQ OW AL AW AD AF SW
theorem PassIs_c (nm : ByteArray) (bd t x y z mo : Int) (l : List St) (z0 : Nat) (hn : nm.size ≤ 1000) (hR : Right bd l) (h0 : frstT l ≤ t) (h1 : t ≤ lastT l)
    (hx : -100000000 ≤ x ∧ x ≤ 100000000) (hy : -100000000 ≤ y ∧ y ≤ 100000000) (hz : -100000000 ≤ z ∧ z ≤ 100000000) (hmo : 0 ≤ mo ∧ mo ≤ 100000000) :
    PCalls Try.prog 73 [.int .i64 t, .pointer (some ⟨3, 0, none⟩), .pointer (some ⟨1, 0, none⟩), .pointer (some ⟨2, 0, none⟩)] (psM nm bd x y z mo l z0) (.bool (decide (nsq l x y z t ≤ mo * mo))) := by
  have hnb := nom_bd hR h0 h1
  have hnd := dsq_bd hnb hx hy hz
  have HN := fun (m : Mem) (v : Value) (hS : SlB m v l) => nominal_q (bd := bd) hS (Ors.of_right hn hR) hR t h0 h1
  have hEq : nsq l x y z t = ((nom l t).x - x) * ((nom l t).x - x) + ((nom l t).y - y) * ((nom l t).y - y) + ((nom l t).z - z) * ((nom l t).z - z) := rfl
  rw [hEq]
  clear hEq hR h0 h1
  generalize nom l t = p at *
  obtain ⟨px, py, pz⟩ := p
  simp only [p3V] at hnd hnb HN ⊢
  have hm := sq_bd (n := mo) (M := 100000000) (by omega) (by omega)
  refine PCalls.enter (t := [.int .i64 t, .pointer (some ⟨3, 0, none⟩), .pointer (some ⟨1, 0, none⟩), .pointer (some ⟨2, 0, none⟩), undef, undef, undef, undef, undef, undef, undef, undef, undef, undef, undef, undef, undef, undef, undef, undef]) Try.func73 rfl (ro_of rfl) rfl fun E => ?_
  repeat' (first
    | with_reducible refine Then.n ?_
    | with_reducible refine Then.r ?_
    | with_reducible refine Then.x ?_
    | with_reducible refine InB.n ?_
    | with_reducible refine InB.r ?_
    | with_reducible refine InB.hit ?_
    | with_reducible refine InB.miss (by decide) ?_
    | ((with_reducible refine AL.on ?_); first
      | ((first | first | (refine AL.q rfl (OQ.assign (by conv => lhs; whnf)) ?_)); (conv => (arg 5; try simp only [T.put, T.ev, putAt, setsT, newBlks, fillL, List.map, List.set, List.append, List.cons_append, List.nil_append, List.length, List.getElem?_cons_zero, List.getElem?_cons_succ, Nat.reduceAdd, Nat.reduceMul, Nat.zero_add, Nat.add_zero, Nat.mul_one, Nat.zero_mul, List.drop, List.take, List.toList_toArray, Value.cells, Int.reduceToNat, Int.toNat_natCast, List.getD, Option.getD, Option.map, flat, flat1, scal, if_true, ↓reduceIte])))
      | refine AL.nil ?_)
    | ((with_reducible refine AW.on ?_); first
      | refine AW.seq ?_
      | refine AW.skip ?_
      | refine AW.exit ?_
      | refine AW.ret ?_
      | refine AW.block ?_
      | (refine AW.draw (id := 1) 8 #[0, 0, 3, 0, 15, 31, 0, 127] (by kernel_rfl) (by kernel_rfl) ?_; (conv => (arg 8; simp only [List.take_succ_cons, List.take_zero])))
      | (refine AW.draw (id := 2) 8 #[0, 0, 3, 0, 0, 24, 63, 127] (by kernel_rfl) (by kernel_rfl) ?_; (conv => (arg 8; simp only [List.take_succ_cons, List.take_zero])))
      | refine AW.region ?_
      | (refine AW.conds rfl (fun hc => ?_) (fun hc => ?_) <;> (try simp only [decide_eq_true_eq, decide_eq_false_iff_not, Bool.not_true, Bool.not_false, Bool.not_eq_true', Bool.not_eq_false', Int.not_lt, Int.not_le, Classical.not_not, ne_eq] at hc) <;> first | (exfalso; first | contradiction | (omega); done) | skip))
    | ((with_reducible refine AD.on ?_); first
      | ((first | ((with_reducible refine AD.k_load ?_); first | refine AD.q rfl (OQ.loadN (ty := 118) (n := 3) rfl (by kernel_rfl) (by kernel_rfl) rfl) rfl rfl rfl ?_ | refine AD.q rfl (OQ.loadN (ty := 26) (n := 3) rfl (by kernel_rfl) (by kernel_rfl) rfl) rfl rfl rfl ?_ | refine AD.q rfl (OQ.loadN (ty := 126) (n := 3) rfl (by kernel_rfl) (by kernel_rfl) rfl) rfl rfl rfl ?_ | (refine AD.q rfl (OQ.load1 (ty := 3) rfl (by kernel_rfl) (by conv => lhs; whnf)) rfl rfl rfl ?_)) | ((with_reducible refine AD.k_binOp ?_); first | refine AD.q rfl (OQ.muli rfl rfl (by omega)) rfl rfl rfl ?_ | refine AD.q rfl (OQ.mul rfl rfl) rfl rfl rfl ?_ | refine AD.q rfl (OQ.leq rfl rfl) rfl rfl rfl ?_) | ((with_reducible refine AD.k_assign ?_); first | (refine AD.q rfl (OQ.assign (by conv => lhs; whnf)) rfl rfl rfl ?_)) | ((with_reducible refine AD.k_move ?_); first | (refine AD.q rfl (OQ.move (by conv => lhs; whnf)) rfl rfl rfl ?_))); (conv => (arg 10; try simp only [T.put, T.ev, putAt, setsT, newBlks, fillL, List.map, List.set, List.append, List.cons_append, List.nil_append, List.length, List.getElem?_cons_zero, List.getElem?_cons_succ, Nat.reduceAdd, Nat.reduceMul, Nat.zero_add, Nat.add_zero, Nat.mul_one, Nat.zero_mul, List.drop, List.take, List.toList_toArray, Value.cells, Int.reduceToNat, Int.toNat_natCast, List.getD, Option.getD, Option.map, flat, flat1, scal, if_true, ↓reduceIte])))
      | ((first | first | refine AD.pcall (g := 74) rfl (by kernel_rfl) rfl (HN _ _ (.blk 0 _ rfl rfl rfl)) rfl rfl ?_ | refine AD.pcall (g := 76) rfl (by kernel_rfl) rfl (vectorOf_p _ _ _ _) rfl rfl ?_ | refine AD.pcall (g := 75) rfl (by kernel_rfl) rfl (less_p _ _ _ _ _ _ (by omega) (by omega) (by omega) _) rfl rfl ?_ | refine AD.pcall (g := 77) rfl (by kernel_rfl) rfl (dot_q _ _ _ _ _ _ (by omega) (by omega) (by omega) _) rfl rfl ?_); (conv => (arg 10; try simp only [T.put, T.ev, putAt, setsT, newBlks, fillL, List.map, List.set, List.append, List.cons_append, List.nil_append, List.length, List.getElem?_cons_zero, List.getElem?_cons_succ, Nat.reduceAdd, Nat.reduceMul, Nat.zero_add, Nat.add_zero, Nat.mul_one, Nat.zero_mul, List.drop, List.take, List.toList_toArray, Value.cells, Int.reduceToNat, Int.toNat_natCast, List.getD, Option.getD, Option.map, flat, flat1, scal, if_true, ↓reduceIte])))
      | ((first | ((with_reducible refine AD.k_alloc ?_); first | refine AD.new (ty := 126) (z := [.int .i64 0, .int .i64 0, .int .i64 0]) rfl rfl rfl (by kernel_rfl) rfl (Nat.lt_of_lt_of_le (Nat.lt_succ_self _) (Nat.le_of_ble_eq_true rfl)) rfl ?_) | ((with_reducible refine AD.k_store ?_); first | (refine AD.init (ty := 126) (p := 0) rfl rfl rfl rfl rfl rfl (by kernel_rfl) (by conv => lhs; whnf) rfl (by kernel_rfl) rfl rfl rfl (by intro r h; cases h) ?_))); (conv => (arg 10; try simp only [T.put, T.ev, putAt, setsT, newBlks, fillL, List.map, List.set, List.append, List.cons_append, List.nil_append, List.length, List.getElem?_cons_zero, List.getElem?_cons_succ, Nat.reduceAdd, Nat.reduceMul, Nat.zero_add, Nat.add_zero, Nat.mul_one, Nat.zero_mul, List.drop, List.take, List.toList_toArray, Value.cells, Int.reduceToNat, Int.toNat_natCast, List.getD, Option.getD, Option.map, flat, flat1, scal, if_true, ↓reduceIte])); (conv => (arg 9; try dsimp only [Nat.reduceAdd])); (conv => (arg 11; try simp only [T.put, T.ev, putAt, setsT, newBlks, fillL, List.map, List.set, List.append, List.cons_append, List.nil_append, List.length, List.getElem?_cons_zero, List.getElem?_cons_succ, Nat.reduceAdd, Nat.reduceMul, Nat.zero_add, Nat.add_zero, Nat.mul_one, Nat.zero_mul, List.drop, List.take, List.toList_toArray, Value.cells, Int.reduceToNat, Int.toNat_natCast, List.getD, Option.getD, Option.map, flat, flat1, scal, if_true, ↓reduceIte])))
      | (refine AD.nil ?_; (conv => (arg 4; simp only [List.drop_succ_cons, List.drop_zero, List.drop_nil])); (conv => (arg 5; try simp only [T.put, T.ev, putAt, setsT, newBlks, fillL, List.map, List.set, List.append, List.cons_append, List.nil_append, List.length, List.getElem?_cons_zero, List.getElem?_cons_succ, Nat.reduceAdd, Nat.reduceMul, Nat.zero_add, Nat.add_zero, Nat.mul_one, Nat.zero_mul, List.drop, List.take, List.toList_toArray, Value.cells, Int.reduceToNat, Int.toNat_natCast, List.getD, Option.getD, Option.map, flat, flat1, scal, if_true, ↓reduceIte])); (conv => (arg 6; try simp only [T.put, T.ev, putAt, setsT, newBlks, fillL, List.map, List.set, List.append, List.cons_append, List.nil_append, List.length, List.getElem?_cons_zero, List.getElem?_cons_succ, Nat.reduceAdd, Nat.reduceMul, Nat.zero_add, Nat.add_zero, Nat.mul_one, Nat.zero_mul, List.drop, List.take, List.toList_toArray, Value.cells, Int.reduceToNat, Int.toNat_natCast, List.getD, Option.getD, Option.map, flat, flat1, scal, if_true, ↓reduceIte]))))
    | ((with_reducible refine FinP.on ?_); (first | refine FinP.ret (.tmp (by conv => lhs; whnf) .nil) ?_ rfl | refine FinP.end (.tmp (by conv => lhs; whnf) .nil) ?_ rfl); (try simp only [pack, List.drop, List.take]); all_goals (rfl)))
end

theorem nTicks_eq {bd : Int} {l : List St} (hR : Right bd l) : (nTicks l : Int) = lastT l + 1 - frstT l ∧ 0 ≤ frstT l ∧ lastT l ≤ 1000000000 ∧ nTicks l ≤ 20001 := by
  have hl := hR.n2
  have hle : frstT l ≤ lastT l := hR.le 0 (l.length - 1) (by omega) (by omega)
  have ht0 : 0 ≤ frstT l := (hR.ok 0 (by omega)).t0
  have ht1 : lastT l ≤ 1000000000 := (hR.ok (l.length - 1) (by omega)).t1
  have hla : lastT l - frstT l ≤ 20000 := hR.arc (l.length - 1) (by omega)
  have : (nTicks l : Int) = lastT l + 1 - frstT l := by unfold nTicks; omega
  omega

abbrev psL (l : List St) (x y z mo : Int) : List (Int × Int) := runTo (fun t => decide (nsq l x y z t ≤ mo * mo)) (frstT l) (nTicks l)

theorem ps_runs (nm : ByteArray) (bd x y z mo : Int) (l : List St) (z0 : Nat) (hn : nm.size ≤ 1000) (hR : Right bd l)
    (hx : -100000000 ≤ x ∧ x ≤ 100000000) (hy : -100000000 ≤ y ∧ y ≤ 100000000) (hz : -100000000 ≤ z ∧ z ≤ 100000000) (hmo : 0 ≤ mo ∧ mo ≤ 100000000) :
    ACalls Try.prog 71 [.int .i64 (frstT l), .int .i64 (lastT l), .func (.func 73) #[] #[.pointer (some ⟨3, 0, none⟩), .pointer (some ⟨1, 0, none⟩), .pointer (some ⟨2, 0, none⟩)]] (psM nm bd x y z mo l z0) (rgV 4 (psL l x y z mo)) (psM nm bd x y z mo l z0 ++ [rgB (psL l x y z mo)]) := by
  obtain ⟨h1, h2, h3, h4⟩ := nTicks_eq hR
  refine runs_4 73 (by kernel_rfl) [.pointer (some ⟨3, 0, none⟩), .pointer (some ⟨1, 0, none⟩), .pointer (some ⟨2, 0, none⟩)] (fun t => decide (nsq l x y z t ≤ mo * mo)) (frstT l) (lastT l) (nTicks l) _ _ _ _ (by omega) (by omega) h1 (by omega)
    (fun js => ⟨rn1_id (flatS_scal l), ok1_of_scal (flatS_scal l)⟩) (fun js => ⟨rfl, rfl⟩) (fun js => ⟨rfl, rfl⟩) (fun js => ⟨rfl, rfl⟩) (fun js => rfl) rfl (fun k hk rest => ?_)
  refine PCalls.wide (PassIs_c nm bd (frstT l + k) x y z mo l z0 hn hR (by omega) (by omega) hx hy hz hmo) (fun b blk hb => ?_) rfl rfl rfl rfl
  have := Mem.at_lt hb
  match b, this with
  | 0, _ => simp [Mem.at] at hb; subst hb; exact ⟨rfl, ok1_of_scal (flatS_scal l), _, rfl, rfl, rfl⟩
  | 1, _ => simp [Mem.at] at hb; subst hb; exact ⟨rfl, rfl, _, rfl, rfl, rfl⟩
  | 2, _ => simp [Mem.at] at hb; subst hb; exact ⟨rfl, rfl, _, rfl, rfl, rfl⟩
  | 3, _ => simp [Mem.at] at hb; subst hb; exact ⟨rfl, rfl, _, rfl, rfl, rfl⟩
  | b + 4, h => simp at h; omega

/-- The same in the memory of Passes. -/
theorem ps_runs2 (nm : ByteArray) (bd x y z mo : Int) (l : List St) (z0 : Nat) (hn : nm.size ≤ 1000) (hR : Right bd l) (B1 B5 : Option Blk)
    (hx : -100000000 ≤ x ∧ x ≤ 100000000) (hy : -100000000 ≤ y ∧ y ≤ 100000000) (hz : -100000000 ≤ z ∧ z ≤ 100000000) (hmo : 0 ≤ mo ∧ mo ≤ 100000000) :
    ACalls Try.prog 71 [.int .i64 (frstT l), .int .i64 (lastT l), .func (.func 73) #[] #[.pointer (some ⟨4, 0, none⟩), .pointer (some ⟨2, 0, none⟩), .pointer (some ⟨3, 0, none⟩)]]
      [some ⟨flatS l, false, z0⟩, B1, some ⟨[.int .i64 x, .int .i64 y, .int .i64 z], true, 0⟩, some ⟨[.int .i64 mo], true, 0⟩, some ⟨[.string nm, .int .i64 bd, .slice (some ⟨0, 0, none⟩) l.length INF], true, 0⟩, B5] (rgV 6 (psL l x y z mo))
      [some ⟨flatS l, false, z0⟩, B1, some ⟨[.int .i64 x, .int .i64 y, .int .i64 z], true, 0⟩, some ⟨[.int .i64 mo], true, 0⟩, some ⟨[.string nm, .int .i64 bd, .slice (some ⟨0, 0, none⟩) l.length INF], true, 0⟩, B5, rgB (psL l x y z mo)] := by
  refine ACalls.viaN (fun b => if b = 0 then 0 else b + 1) (ps_runs nm bd x y z mo l z0 hn hR hx hy hz hmo) (fun b blk hb => ?_) (fun b hb => ?_) (rgB_scal _) rfl rfl (rgV_rn _ _ _) (rgV_ok _ (Nat.le_refl 5))
  · have := Mem.at_lt hb
    match b, this with
    | 0, _ =>
      simp [Mem.at] at hb
      subst hb
      refine ⟨rfl, ok1_of_scal (flatS_scal l), _, rfl, rfl, fun i v hv => ?_⟩
      rw [rn1_scal (List.all_eq_true.1 (flatS_scal l) v (List.mem_of_getElem? hv))]
      exact hv
    | 1, _ => simp [Mem.at] at hb; subst hb; exact ⟨rfl, rfl, _, rfl, rfl, fun i v hv => by match i, hv with | 0, hv => simp at hv; subst hv; rfl | 1, hv => simp at hv; subst hv; rfl | 2, hv => simp at hv; subst hv; rfl | i + 3, hv => simp at hv⟩
    | 2, _ => simp [Mem.at] at hb; subst hb; exact ⟨rfl, rfl, _, rfl, rfl, fun i v hv => by match i, hv with | 0, hv => simp at hv; subst hv; rfl | i + 1, hv => simp at hv⟩
    | 3, _ => simp [Mem.at] at hb; subst hb; exact ⟨rfl, rfl, _, rfl, rfl, fun i v hv => by match i, hv with | 0, hv => simp at hv; subst hv; rfl | 1, hv => simp at hv; subst hv; rfl | 2, hv => simp at hv; subst hv; rfl | i + 3, hv => simp at hv⟩
    | b + 4, h => simp at h; omega
  · match b, hb with
    | 0, _ => exact ⟨_, rfl⟩
    | 1, _ => exact ⟨_, rfl⟩
    | 2, _ => exact ⟨_, rfl⟩
    | 3, _ => exact ⟨_, rfl⟩
    | b + 4, h => simp at h; omega

section
attribute [local irreducible] OQ OW AL AW AD AF SW rgV rgB
/-- Passes of a right orbit. -/
theorem Passes_0 (nm : ByteArray) (bd x y z mo : Int) (l : List St) (z0 : Nat) (hn : nm.size ≤ 1000) (hR : Right bd l) (he : (orbE nm.data.toList bd l).2 = 0)
    (hx : -100000000 ≤ x ∧ x ≤ 100000000) (hy : -100000000 ≤ y ∧ y ≤ 100000000) (hz : -100000000 ≤ z ∧ z ≤ 100000000) (hpl : placeE x y z = 0) (hmo : 0 ≤ mo ∧ mo ≤ 100000000) :
    ACalls Try.prog 17 [obI nm bd 0 l, v3 x y z, .int .i64 mo] [some ⟨flatS l, false, z0⟩] (.tuple #[rgV 1 (psL l x y z mo), .int .i64 0]) [some ⟨flatS l, false, z0⟩, rgB (psL l x y z mo)] := by
  have ho := Ors.of_right hn hR
  have HP := fun (m : Mem) (v : Value) (hS : SlB m v l) => pathOf_q (bd := bd) hS ho
  rw [he] at HP
  have HT := fun (m : Mem) (v : Value) (hS : SlB m v l) => ticks_q (bd := bd) hS ho hR
  have HC := checkPlace_q x y z
  rw [hpl] at HC
  have HB := bound_q mo 0 100000000
  rw [show Ob.bnd mo 0 100000000 = 0 from bnd_ok.2 hmo] at HB
  have HR := fun B1 B5 => ps_runs2 nm bd x y z mo l z0 hn hR B1 B5 hx hy hz hmo
  have hsc := fun b h => (rgB_scal (psL l x y z mo) b h).2
  have hrn := rgV_rn2 (kσ 1 [6]) 1 (psL l x y z mo)
  have hok := rgV_ok2 (n := 2) (b := 1) (psL l x y z mo) (by decide)
  generalize psL l x y z mo = L at *
  refine ACalls.enter (t := [obI nm bd 0 l, v3 x y z, .int .i64 mo, undef, undef, undef, undef, undef, undef, undef, undef, undef, undef, undef, undef, undef, undef, undef, undef, undef, undef, undef, undef, undef, undef, undef, undef, undef, undef, undef, undef, undef, undef]) Try.func17 rfl rfl fun E hE => ?_
  repeat' (first
    | with_reducible refine Then.n ?_
    | with_reducible refine Then.r ?_
    | with_reducible refine Then.x ?_
    | with_reducible refine InB.n ?_
    | with_reducible refine InB.r ?_
    | with_reducible refine InB.hit ?_
    | with_reducible refine InB.miss (by decide) ?_
    | ((with_reducible refine AL.on ?_); first
      | ((first | ((with_reducible refine AL.k_assign ?_); first | (refine AL.q rfl (OQ.assign (by conv => lhs; whnf)) ?_)) | ((with_reducible refine AL.k_load ?_); first | refine AL.q rfl (OQ.loadN (ty := 24) (n := 3) rfl (by kernel_rfl) (by kernel_rfl) rfl) ?_) | ((with_reducible refine AL.k_move ?_); first | (refine AL.q rfl (OQ.move (by conv => lhs; whnf)) ?_)) | ((with_reducible refine AL.k_extract ?_); first | refine AL.q rfl (OQ.extract rfl rfl) ?_) | ((with_reducible refine AL.k_binOp ?_); first | refine AL.q rfl (OQ.neq rfl rfl) ?_)); (conv => (arg 5; try simp only [T.put, T.ev, putAt, setsT, newBlks, fillL, List.map, List.set, List.append, List.cons_append, List.nil_append, List.length, List.getElem?_cons_zero, List.getElem?_cons_succ, Nat.reduceAdd, Nat.reduceMul, Nat.zero_add, Nat.add_zero, Nat.mul_one, Nat.zero_mul, List.drop, List.take, List.toList_toArray, Value.cells, Int.reduceToNat, Int.toNat_natCast, List.getD, Option.getD, Option.map, flat, flat1, scal, if_true, ↓reduceIte])))
      | ((first | first | refine AL.pcall (g := 67) rfl (by kernel_rfl) rfl (HP _ _ (.blk 0 _ rfl rfl rfl)) ?_ | refine AL.pcall (g := 68) rfl (by kernel_rfl) rfl (first3_q 0 0 0 rfl rfl) ?_); (conv => (arg 5; try simp only [T.put, T.ev, putAt, setsT, newBlks, fillL, List.map, List.set, List.append, List.cons_append, List.nil_append, List.length, List.getElem?_cons_zero, List.getElem?_cons_succ, Nat.reduceAdd, Nat.reduceMul, Nat.zero_add, Nat.add_zero, Nat.mul_one, Nat.zero_mul, List.drop, List.take, List.toList_toArray, Value.cells, Int.reduceToNat, Int.toNat_natCast, List.getD, Option.getD, Option.map, flat, flat1, scal, if_true, ↓reduceIte])))
      | ((first | ((with_reducible refine AL.k_call ?_); first | refine AL.acall (g := 71) rfl (by kernel_rfl) rfl ((by exact HR _ _)) ?_) | ((with_reducible refine AL.k_box ?_); first | (refine AL.w rfl (OW.box (by conv => lhs; whnf) (by intro r h; cases h)) ?_)) | ((with_reducible refine AL.k_alloc ?_); first | refine AL.w rfl (OW.alloc (ty := 118) (z := [.string ⟨#[]⟩, .int .i64 0, .slice none 0 0]) (by kernel_rfl) rfl) ?_) | ((with_reducible refine AL.k_store ?_); first | (refine AL.w rfl (OW.store (ty := 118) (n := 3) rfl (by conv => lhs; whnf) rfl rfl (by kernel_rfl) rfl rfl (by decide) rfl (Nat.le_of_ble_eq_true rfl) (by intro r h; cases h)) ?_)) | ((with_reducible refine AL.k_buildSlice ?_); first | refine AL.w rfl (OW.buildSl (ty := 162) (zs := [.int .i64 0]) (n := 1) (g := false) (by kernel_rfl) (by kernel_rfl) rfl rfl rfl (by decide) (by decide) rfl rfl) ?_)); (conv => (arg 5; try simp only [T.put, T.ev, putAt, setsT, newBlks, fillL, List.map, List.set, List.append, List.cons_append, List.nil_append, List.length, List.getElem?_cons_zero, List.getElem?_cons_succ, Nat.reduceAdd, Nat.reduceMul, Nat.zero_add, Nat.add_zero, Nat.mul_one, Nat.zero_mul, List.drop, List.take, List.toList_toArray, Value.cells, Int.reduceToNat, Int.toNat_natCast, List.getD, Option.getD, Option.map, flat, flat1, scal, if_true, ↓reduceIte])); (conv => (arg 6; try simp only [T.put, T.ev, putAt, setsT, newBlks, fillL, List.map, List.set, List.append, List.cons_append, List.nil_append, List.length, List.getElem?_cons_zero, List.getElem?_cons_succ, Nat.reduceAdd, Nat.reduceMul, Nat.zero_add, Nat.add_zero, Nat.mul_one, Nat.zero_mul, List.drop, List.take, List.toList_toArray, Value.cells, Int.reduceToNat, Int.toNat_natCast, List.getD, Option.getD, Option.map, flat, flat1, scal, if_true, ↓reduceIte])))
      | refine AL.nil ?_)
    | ((with_reducible refine AW.on ?_); first
      | refine AW.seq ?_
      | refine AW.skip ?_
      | refine AW.exit ?_
      | refine AW.ret ?_
      | refine AW.block ?_
      | (refine AW.draw (id := 2) 5 #[0, 0, 2, 0, 14, 31, 63, 127] (by kernel_rfl) (by kernel_rfl) ?_; (conv => (arg 8; simp only [List.take_succ_cons, List.take_zero])))
      | (refine AW.draw (id := 5) 7 #[0, 1, 3, 0, 11, 27, 0, 127, 255, 511] (by kernel_rfl) (by kernel_rfl) ?_; (conv => (arg 8; simp only [List.take_succ_cons, List.take_zero])))
      | (refine AW.region (id := 4) ?_; exfalso; first | omega | (simp_all; done); done)
      | refine AW.region ?_
      | (refine AW.conds rfl (fun hc => ?_) (fun hc => ?_) <;> (try simp only [decide_eq_true_eq, decide_eq_false_iff_not, Bool.not_true, Bool.not_false, Bool.not_eq_true', Bool.not_eq_false', Int.not_lt, Int.not_le, Classical.not_not, ne_eq] at hc) <;> first | (exfalso; first | contradiction | (first | omega | (simp_all; done)); done) | skip))
    | ((with_reducible refine AD.on ?_); first
      | ((first | ((with_reducible refine AD.k_load ?_); first | refine AD.q rfl (OQ.loadN (ty := 26) (n := 3) rfl (by kernel_rfl) (by kernel_rfl) rfl) rfl rfl rfl ?_ | (refine AD.q rfl (OQ.load1 (ty := 3) rfl (by kernel_rfl) (by conv => lhs; whnf)) rfl rfl rfl ?_) | refine AD.q rfl (OQ.loadN (ty := 118) (n := 3) rfl (by kernel_rfl) (by kernel_rfl) rfl) rfl rfl rfl ?_) | ((with_reducible refine AD.k_move ?_); first | (refine AD.q rfl (OQ.move (by conv => lhs; whnf)) rfl rfl rfl ?_)) | ((with_reducible refine AD.k_field ?_); first | refine AD.q rfl (OQ.field1 (ty := 44) (i := 0) (n := 1) (off := 0) rfl (by kernel_rfl) rfl) rfl rfl rfl ?_ | refine AD.q rfl (OQ.field1 (ty := 44) (i := 1) (n := 1) (off := 1) rfl (by kernel_rfl) rfl) rfl rfl rfl ?_)); (conv => (arg 10; try simp only [T.put, T.ev, putAt, setsT, newBlks, fillL, List.map, List.set, List.append, List.cons_append, List.nil_append, List.length, List.getElem?_cons_zero, List.getElem?_cons_succ, Nat.reduceAdd, Nat.reduceMul, Nat.zero_add, Nat.add_zero, Nat.mul_one, Nat.zero_mul, List.drop, List.take, List.toList_toArray, Value.cells, Int.reduceToNat, Int.toNat_natCast, List.getD, Option.getD, Option.map, flat, flat1, scal, if_true, ↓reduceIte])))
      | ((first | ((with_reducible refine AD.k_call ?_); first | refine AD.pcall (g := 69) rfl (by kernel_rfl) rfl (HC _) rfl rfl ?_ | refine AD.pcall (g := 70) rfl (by kernel_rfl) rfl (HB _) rfl rfl ?_ | refine AD.pcall (g := 72) rfl (by kernel_rfl) rfl (HT _ _ (.blk 0 _ rfl rfl rfl)) rfl rfl ?_) | refine AD.q rfl OQ.mkfn rfl rfl rfl ?_); (conv => (arg 10; try simp only [T.put, T.ev, putAt, setsT, newBlks, fillL, List.map, List.set, List.append, List.cons_append, List.nil_append, List.length, List.getElem?_cons_zero, List.getElem?_cons_succ, Nat.reduceAdd, Nat.reduceMul, Nat.zero_add, Nat.add_zero, Nat.mul_one, Nat.zero_mul, List.drop, List.take, List.toList_toArray, Value.cells, Int.reduceToNat, Int.toNat_natCast, List.getD, Option.getD, Option.map, flat, flat1, scal, if_true, ↓reduceIte])))
      | (refine AD.nil ?_; (conv => (arg 4; simp only [List.drop_succ_cons, List.drop_zero, List.drop_nil])); (conv => (arg 5; try simp only [T.put, T.ev, putAt, setsT, newBlks, fillL, List.map, List.set, List.append, List.cons_append, List.nil_append, List.length, List.getElem?_cons_zero, List.getElem?_cons_succ, Nat.reduceAdd, Nat.reduceMul, Nat.zero_add, Nat.add_zero, Nat.mul_one, Nat.zero_mul, List.drop, List.take, List.toList_toArray, Value.cells, Int.reduceToNat, Int.toNat_natCast, List.getD, Option.getD, Option.map, flat, flat1, scal, if_true, ↓reduceIte])); (conv => (arg 6; try simp only [T.put, T.ev, putAt, setsT, newBlks, fillL, List.map, List.set, List.append, List.cons_append, List.nil_append, List.length, List.getElem?_cons_zero, List.getElem?_cons_succ, Nat.reduceAdd, Nat.reduceMul, Nat.zero_add, Nat.add_zero, Nat.mul_one, Nat.zero_mul, List.drop, List.take, List.toList_toArray, Value.cells, Int.reduceToNat, Int.toNat_natCast, List.getD, Option.getD, Option.map, flat, flat1, scal, if_true, ↓reduceIte]))))
    | ((with_reducible refine FinA.on ?_); (refine FinA.keep 1 [6] (.inl rfl) (.tmp (by conv => lhs; whnf) (.tmp (by conv => lhs; whnf) .nil)) ?_ (by show (ok2 2 (rgV 1 L) && (true && true)) = true; rw [hok]; rfl) (Nat.le_of_eq hE) rfl rfl ⟨⟨_, rfl, rfl, rfl, .inl ⟨rfl, flatS_scal l⟩⟩, memRen_opt rfl hsc trivial⟩; (show Value.tuple #[rn2 (kσ 1 [6]) (rgV 1 L), .int .i64 0] = _); rw [hrn]; rfl)))

/-- Passes, where something is wrong. -/
theorem Passes_e (nm : ByteArray) (bd x y z mo : Int) (l : List St) (z0 : Nat) (ho : Ors nm l) (hc : firstE [(orbE nm.data.toList bd l).2, placeE x y z, Ob.bnd mo 0 100000000] ≠ 0) :
    PCalls Try.prog 17 [obI nm bd 0 l, v3 x y z, .int .i64 mo] [some ⟨flatS l, false, z0⟩] (.tuple #[.slice none 0 0, .int .i64 (firstE [(orbE nm.data.toList bd l).2, placeE x y z, Ob.bnd mo 0 100000000])]) := by
  have HP := fun (m : Mem) (v : Value) (hS : SlB m v l) => pathOf_q (bd := bd) hS ho
  have HC := checkPlace_q x y z
  have HB := bound_q mo 0 100000000
  generalize (orbE nm.data.toList bd l).2 = e at *
  generalize placeE x y z = f at *
  generalize Ob.bnd mo 0 100000000 = g at *
  refine PCalls.enter (t := [obI nm bd 0 l, v3 x y z, .int .i64 mo, undef, undef, undef, undef, undef, undef, undef, undef, undef, undef, undef, undef, undef, undef, undef, undef, undef, undef, undef, undef, undef, undef, undef, undef, undef, undef, undef, undef, undef, undef]) Try.func17 rfl (ro1 _ rfl) rfl fun E => ?_
  repeat' (first
    | with_reducible refine Then.n ?_
    | with_reducible refine Then.r ?_
    | with_reducible refine Then.x ?_
    | with_reducible refine InB.n ?_
    | with_reducible refine InB.r ?_
    | with_reducible refine InB.hit ?_
    | with_reducible refine InB.miss (by decide) ?_
    | ((with_reducible refine AL.on ?_); first
      | ((first | ((with_reducible refine AL.k_assign ?_); first | (refine AL.q rfl (OQ.assign (by conv => lhs; whnf)) ?_)) | ((with_reducible refine AL.k_load ?_); first | refine AL.q rfl (OQ.loadN (ty := 24) (n := 3) rfl (by kernel_rfl) (by kernel_rfl) rfl) ?_) | ((with_reducible refine AL.k_move ?_); first | (refine AL.q rfl (OQ.move (by conv => lhs; whnf)) ?_)) | ((with_reducible refine AL.k_extract ?_); first | refine AL.q rfl (OQ.extract rfl rfl) ?_) | ((with_reducible refine AL.k_binOp ?_); first | refine AL.q rfl (OQ.neq rfl rfl) ?_)); (conv => (arg 5; try simp only [T.put, T.ev, putAt, setsT, newBlks, fillL, List.map, List.set, List.append, List.cons_append, List.nil_append, List.length, List.getElem?_cons_zero, List.getElem?_cons_succ, Nat.reduceAdd, Nat.reduceMul, Nat.zero_add, Nat.add_zero, Nat.mul_one, Nat.zero_mul, List.drop, List.take, List.toList_toArray, Value.cells, Int.reduceToNat, Int.toNat_natCast, List.getD, Option.getD, Option.map, flat, flat1, scal, if_true, ↓reduceIte])))
      | ((first | first | refine AL.pcall (g := 67) rfl (by kernel_rfl) rfl (HP _ _ (.blk 0 _ rfl rfl rfl)) ?_ | refine AL.pcall (g := 68) rfl (by kernel_rfl) rfl (first3_q _ _ _ rfl rfl) ?_); (conv => (arg 5; try simp only [T.put, T.ev, putAt, setsT, newBlks, fillL, List.map, List.set, List.append, List.cons_append, List.nil_append, List.length, List.getElem?_cons_zero, List.getElem?_cons_succ, Nat.reduceAdd, Nat.reduceMul, Nat.zero_add, Nat.add_zero, Nat.mul_one, Nat.zero_mul, List.drop, List.take, List.toList_toArray, Value.cells, Int.reduceToNat, Int.toNat_natCast, List.getD, Option.getD, Option.map, flat, flat1, scal, if_true, ↓reduceIte])))
      | ((first | ((with_reducible refine AL.k_box ?_); first | (refine AL.w rfl (OW.box (by conv => lhs; whnf) (by intro r h; cases h)) ?_)) | ((with_reducible refine AL.k_alloc ?_); first | refine AL.w rfl (OW.alloc (ty := 118) (z := [.string ⟨#[]⟩, .int .i64 0, .slice none 0 0]) (by kernel_rfl) rfl) ?_) | ((with_reducible refine AL.k_store ?_); first | (refine AL.w rfl (OW.store (ty := 118) (n := 3) rfl (by conv => lhs; whnf) rfl rfl (by kernel_rfl) rfl rfl (by decide) rfl (Nat.le_of_ble_eq_true rfl) (by intro r h; cases h)) ?_)) | ((with_reducible refine AL.k_buildSlice ?_); first | refine AL.w rfl (OW.buildSl (ty := 162) (zs := [.int .i64 0]) (n := 1) (g := false) (by kernel_rfl) (by kernel_rfl) rfl rfl rfl (by decide) (by decide) rfl rfl) ?_)); (conv => (arg 5; try simp only [T.put, T.ev, putAt, setsT, newBlks, fillL, List.map, List.set, List.append, List.cons_append, List.nil_append, List.length, List.getElem?_cons_zero, List.getElem?_cons_succ, Nat.reduceAdd, Nat.reduceMul, Nat.zero_add, Nat.add_zero, Nat.mul_one, Nat.zero_mul, List.drop, List.take, List.toList_toArray, Value.cells, Int.reduceToNat, Int.toNat_natCast, List.getD, Option.getD, Option.map, flat, flat1, scal, if_true, ↓reduceIte])); (conv => (arg 6; try simp only [T.put, T.ev, putAt, setsT, newBlks, fillL, List.map, List.set, List.append, List.cons_append, List.nil_append, List.length, List.getElem?_cons_zero, List.getElem?_cons_succ, Nat.reduceAdd, Nat.reduceMul, Nat.zero_add, Nat.add_zero, Nat.mul_one, Nat.zero_mul, List.drop, List.take, List.toList_toArray, Value.cells, Int.reduceToNat, Int.toNat_natCast, List.getD, Option.getD, Option.map, flat, flat1, scal, if_true, ↓reduceIte])))
      | refine AL.nil ?_)
    | ((with_reducible refine AW.on ?_); first
      | refine AW.seq ?_
      | refine AW.skip ?_
      | refine AW.exit ?_
      | refine AW.ret ?_
      | refine AW.block ?_
      | (refine AW.draw (id := 2) 5 #[0, 0, 2, 0, 14, 31, 63, 127] (by kernel_rfl) (by kernel_rfl) ?_; (conv => (arg 8; simp only [List.take_succ_cons, List.take_zero])))
      | (refine AW.draw (id := 5) 10 #[0, 1, 3, 0, 11, 27, 0, 127, 255, 511] (by kernel_rfl) (by kernel_rfl) ?_; (conv => (arg 8; simp only [List.take_succ_cons, List.take_zero])))
      | refine AW.region ?_
      | (refine AW.conds rfl (fun hc => ?_) (fun hc => ?_) <;> (try simp only [decide_eq_true_eq, decide_eq_false_iff_not, Bool.not_true, Bool.not_false, Bool.not_eq_true', Bool.not_eq_false', Int.not_lt, Int.not_le, Classical.not_not, ne_eq] at hc) <;> first | (exfalso; first | contradiction | (first | omega | (simp_all; done)); done) | skip))
    | ((with_reducible refine AD.on ?_); first
      | ((first | ((with_reducible refine AD.k_assign ?_); first | (refine AD.q rfl (OQ.assign (by conv => lhs; whnf)) rfl rfl rfl ?_)) | ((with_reducible refine AD.k_load ?_); first | refine AD.q rfl (OQ.loadN (ty := 26) (n := 3) rfl (by kernel_rfl) (by kernel_rfl) rfl) rfl rfl rfl ?_ | (refine AD.q rfl (OQ.load1 (ty := 3) rfl (by kernel_rfl) (by conv => lhs; whnf)) rfl rfl rfl ?_) | refine AD.q rfl (OQ.loadN (ty := 118) (n := 3) rfl (by kernel_rfl) (by kernel_rfl) rfl) rfl rfl rfl ?_) | ((with_reducible refine AD.k_move ?_); first | (refine AD.q rfl (OQ.move (by conv => lhs; whnf)) rfl rfl rfl ?_)) | ((with_reducible refine AD.k_field ?_); first | refine AD.q rfl (OQ.field1 (ty := 44) (i := 0) (n := 1) (off := 0) rfl (by kernel_rfl) rfl) rfl rfl rfl ?_ | refine AD.q rfl (OQ.field1 (ty := 44) (i := 1) (n := 1) (off := 1) rfl (by kernel_rfl) rfl) rfl rfl rfl ?_)); (conv => (arg 10; try simp only [T.put, T.ev, putAt, setsT, newBlks, fillL, List.map, List.set, List.append, List.cons_append, List.nil_append, List.length, List.getElem?_cons_zero, List.getElem?_cons_succ, Nat.reduceAdd, Nat.reduceMul, Nat.zero_add, Nat.add_zero, Nat.mul_one, Nat.zero_mul, List.drop, List.take, List.toList_toArray, Value.cells, Int.reduceToNat, Int.toNat_natCast, List.getD, Option.getD, Option.map, flat, flat1, scal, if_true, ↓reduceIte])))
      | ((first | ((with_reducible refine AD.k_call ?_); first | refine AD.pcall (g := 69) rfl (by kernel_rfl) rfl (HC _) rfl rfl ?_ | refine AD.pcall (g := 70) rfl (by kernel_rfl) rfl (HB _) rfl rfl ?_) | refine AD.q rfl OQ.mkfn rfl rfl rfl ?_); (conv => (arg 10; try simp only [T.put, T.ev, putAt, setsT, newBlks, fillL, List.map, List.set, List.append, List.cons_append, List.nil_append, List.length, List.getElem?_cons_zero, List.getElem?_cons_succ, Nat.reduceAdd, Nat.reduceMul, Nat.zero_add, Nat.add_zero, Nat.mul_one, Nat.zero_mul, List.drop, List.take, List.toList_toArray, Value.cells, Int.reduceToNat, Int.toNat_natCast, List.getD, Option.getD, Option.map, flat, flat1, scal, if_true, ↓reduceIte])))
      | (refine AD.nil ?_; (conv => (arg 4; simp only [List.drop_succ_cons, List.drop_zero, List.drop_nil])); (conv => (arg 5; try simp only [T.put, T.ev, putAt, setsT, newBlks, fillL, List.map, List.set, List.append, List.cons_append, List.nil_append, List.length, List.getElem?_cons_zero, List.getElem?_cons_succ, Nat.reduceAdd, Nat.reduceMul, Nat.zero_add, Nat.add_zero, Nat.mul_one, Nat.zero_mul, List.drop, List.take, List.toList_toArray, Value.cells, Int.reduceToNat, Int.toNat_natCast, List.getD, Option.getD, Option.map, flat, flat1, scal, if_true, ↓reduceIte])); (conv => (arg 6; try simp only [T.put, T.ev, putAt, setsT, newBlks, fillL, List.map, List.set, List.append, List.cons_append, List.nil_append, List.length, List.getElem?_cons_zero, List.getElem?_cons_succ, Nat.reduceAdd, Nat.reduceMul, Nat.zero_add, Nat.add_zero, Nat.mul_one, Nat.zero_mul, List.drop, List.take, List.toList_toArray, Value.cells, Int.reduceToNat, Int.toNat_natCast, List.getD, Option.getD, Option.map, flat, flat1, scal, if_true, ↓reduceIte]))))
    | ((with_reducible refine FinP.on ?_); (first | refine FinP.ret (.tmp (by conv => lhs; whnf) (.tmp (by conv => lhs; whnf) .nil)) ?_ rfl | refine FinP.end (.tmp (by conv => lhs; whnf) (.tmp (by conv => lhs; whnf) .nil)) ?_ rfl); (try simp only [pack, List.drop, List.take]); all_goals (rfl)))
end
end Go.Proofs.Ytaoennekamlfeaa
