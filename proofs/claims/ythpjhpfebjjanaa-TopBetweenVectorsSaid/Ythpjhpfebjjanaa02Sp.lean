/- Chapter 2: speeds. -/
import Derived.Test.Ythpjhpfebjjanaa02Br
import Derived.Test.Ythpjhpfebjjanaa02Gc
import Derived.Test.YthpjhpfebjjanaaAbD
import Derived.Test.Ythpjhpfebjjanaa02G
set_option linter.unusedSimpArgs false
set_option linter.unusedVariables false
namespace Go.Proofs.Ythpjhpfebjjanaa
open Go Go.RowKit Go.Ob Go.Ab
set_option maxRecDepth 100000
attribute [local irreducible] OQ OW AL AW AD AF SW

theorem arc_p {m : Mem} {b : Nat} {blk : Blk} (nm : ByteArray) (bd k : Int) (l : List St) (hb : m.at b = some blk) (hc : blk.cells = flatS l) (hR : Right bd l) :
    PCalls Try.prog 101 [obA nm bd b l, .int .i64 k] m (.tuple #[stV (arcA l k), stV (arcZ l k), .int .i64 (arcE l k)]) := by
  have h2 := hR.n2
  have h40 := hR.n40
  intro ρ args' w hdom hargs hm
  obtain ⟨xs', e, h1, hg⟩ := hargs.tuple_inv
  cases e
  obtain ⟨u, e0, r0⟩ := hg 0 _ rfl
  obtain ⟨u1, e1, r1⟩ := hg 1 _ rfl
  obtain ⟨b', off, cap, rfl, hS, hbw, hcap⟩ := ob_inv hm hb hc (by omega) r0
  have : args' = #[obV nm bd (some ⟨b', off, none⟩) l.length cap, .int .i64 k] := by
    refine Array.ext_getElem? fun i => ?_
    match i with
    | 0 => exact e0
    | 1 => rw [e1, r1.int]; rfl
    | i + 2 => rw [Array.getElem?_eq_none (by simp at h1; omega), Array.getElem?_eq_none (by simp)]
  subst this
  refine (arc_any nm bd k b' off cap l w hS hbw h2 (by omega) hcap).mono fun e w' ⟨he, hbl⟩ => ⟨_, he, .flat rfl, hbl⟩

/-- A difference over a duration, in lowest terms. -/
def frN (n d : Int) : Int := n.tdiv (Int.gcd d n)
def frD (n d : Int) : Int := d.tdiv (Int.gcd d n)
def spV (a b : St) : Value := .agg #[.int .i64 (frN (b.x - a.x) (b.t - a.t)), .int .i64 (frD (b.x - a.x) (b.t - a.t)), .int .i64 (frN (b.y - a.y) (b.t - a.t)), .int .i64 (frD (b.y - a.y) (b.t - a.t)), .int .i64 (frN (b.z - a.z) (b.t - a.t)), .int .i64 (frD (b.z - a.z) (b.t - a.t))]

theorem vectorOf_p (x y z : Int) (m : Mem) : PCalls Try.prog 79 [v3 x y z] m (v3 x y z) := PCalls.of_calls rfl rfl fun w => vectorOf_any x y z w
theorem less_p (x y z a b c : Int) (hx : -4000000000000000000 ≤ x - a ∧ x - a ≤ 4000000000000000000) (hy : -4000000000000000000 ≤ y - b ∧ y - b ≤ 4000000000000000000) (hz : -4000000000000000000 ≤ z - c ∧ z - c ≤ 4000000000000000000) (m : Mem) :
    PCalls Try.prog 78 [v3 x y z, v3 a b c] m (v3 (x - a) (y - b) (z - c)) := PCalls.of_calls rfl rfl fun w => less_any x y z a b c w hx hy hz

theorem tdiv_ok {a b : Int} (h : -1000000000000000 ≤ a ∧ a ≤ 1000000000000000) : -9223372036854775808 ≤ a.tdiv b ∧ a.tdiv b ≤ 9223372036854775807 := by
  have := gtdiv_bd (b := b) h
  omega
theorem gcd_ne {a b : Int} (h : 1 ≤ a) : ((Int.gcd a b : Nat) : Int) ≠ 0 := by
  have := Int.gcd_pos_of_ne_zero_left b (show a ≠ 0 by omega)
  omega

theorem SpeedOf_p (nm : ByteArray) (bd k : Int) (l : List St) (hnm : nm.size ≤ 1000) (hR : Right bd l) (he : (orbE nm.data.toList bd l).2 = 0) (hk : arcB l k = true) :
    PCalls Try.prog 47 [obA nm bd 0 l, .int .i64 k] [some ⟨flatS l, false, 0⟩] (.tuple #[spV (arcA l k) (arcZ l k), .int .i64 0]) := by
  have hA0 : arcE l k = 0 := by unfold arcE; rw [if_pos hk]
  obtain ⟨-, e1, e2, m0, m1⟩ := arc_zero hA0
  have hn40 := hR.n40
  have oka := hR.ok k.toNat (by omega)
  have okb := hR.ok (k.toNat + 1) m1
  have hup := hR.up k.toNat m1
  have harc := hR.arc (k.toNat + 1) m1
  have hle := hR.le 0 k.toNat (by omega) (by omega)
  have hP := fun (m : Mem) (hm : m.at 0 = some ⟨flatS l, false, 0⟩) => pathOf_p nm bd l hm rfl hnm hR
  rw [he] at hP
  have hAr := fun (m : Mem) (hm : m.at 0 = some ⟨flatS l, false, 0⟩) => arc_p nm bd k l hm rfl hR
  rw [hA0] at hAr
  rw [← e1] at oka hup hle
  rw [← e2] at okb hup harc
  clear e1 e2 hk hA0
  generalize arcA l k = sa at *
  generalize arcZ l k = sb at *
  obtain ⟨p1, p2, p3, p4, p5⟩ := sa
  obtain ⟨q1, q2, q3, q4, q5⟩ := sb
  obtain ⟨_, _, oa3, oa4, oa5, oa6, oa7, oa8, _, _⟩ := oka
  obtain ⟨_, _, ob3, ob4, ob5, ob6, ob7, ob8, _, _⟩ := okb
  simp only at *
  have hd : 1 ≤ q1 - p1 ∧ q1 - p1 ≤ 1000000000 := by omega
  refine PCalls.enter (t := [obA nm bd 0 l, .int .i64 k, undef, undef, undef, undef, undef, undef, undef, undef, undef, undef, undef, undef, undef, undef, undef, undef, undef, undef, undef, undef, undef, undef, undef, undef, undef, undef, undef, undef, undef, undef, undef, undef, undef, undef, undef, undef, undef, undef, undef, undef, undef, undef, undef, undef, undef, undef, undef, undef, undef, undef, undef, undef, undef, undef, undef, undef, undef, undef, undef, undef, undef, undef, undef]) Try.func47 rfl (ro_one _ _) rfl fun E => ?_
  repeat' (first
    | with_reducible refine Then.n ?_
    | with_reducible refine Then.r ?_
    | with_reducible refine Then.x ?_
    | with_reducible refine InB.n ?_
    | with_reducible refine InB.r ?_
    | with_reducible refine InB.hit ?_
    | with_reducible refine InB.miss (by decide) ?_
    | ((with_reducible refine AL.on ?_); first
      | ((first | ((with_reducible refine AL.k_move ?_); first | (refine AL.q rfl (OQ.move (by conv => lhs; whnf)) ?_)) | ((with_reducible refine AL.k_assign ?_); first | (refine AL.q rfl (OQ.assign (by conv => lhs; whnf)) ?_)) | ((with_reducible refine AL.k_load ?_); first | refine AL.q rfl (OQ.loadN (ty := 24) (n := 3) rfl (by kernel_rfl) (by kernel_rfl) rfl) ?_ | refine AL.q rfl (OQ.loadN (ty := 120) (n := 3) rfl (by kernel_rfl) (by kernel_rfl) rfl) ?_ | (refine AL.q rfl (OQ.load1 (ty := 3) rfl (by kernel_rfl) (by conv => lhs; whnf)) ?_) | refine AL.q rfl (OQ.loadN (ty := 81) (n := 6) rfl (by kernel_rfl) (by kernel_rfl) rfl) ?_) | ((with_reducible refine AL.k_binOp ?_); first | refine AL.q rfl (OQ.neq rfl rfl) ?_ | refine AL.q rfl (OQ.lss rfl rfl) ?_ | refine AL.q rfl (OQ.subi rfl rfl (by omega)) ?_ | refine AL.q rfl (OQ.sub rfl rfl) ?_ | refine AL.q rfl (OQ.addi rfl rfl (by omega)) ?_ | refine AL.q rfl (OQ.add rfl rfl) ?_) | ((with_reducible refine AL.k_extract ?_); first | refine AL.q rfl (OQ.extract rfl rfl) ?_) | ((with_reducible refine AL.k_fieldAddr ?_); first | refine AL.q rfl (OQ.fieldA (ty := 55) (i := 0) (n := 1) (off := 0) (g := false) rfl (by kernel_rfl) (by decide)) ?_) | ((with_reducible refine AL.k_index ?_); first | refine AL.q rfl (OQ.idxArr1 (ty := 128) (n := 1) (l := 3) rfl rfl (by kernel_rfl) (by omega) (by omega) rfl) ?_)); (conv => (arg 5; try tactic => exact nrm)))
      | ((first | ((with_reducible refine AL.k_call ?_); first | refine AL.pcall (g := 70) rfl (by kernel_rfl) rfl (hP _ rfl) ?_ | refine AL.pcall (g := 101) rfl (by kernel_rfl) rfl (hAr _ rfl) ?_ | refine AL.pcall (g := 105) rfl (by kernel_rfl) rfl (divisor_p _ _ _ (Nat.le_refl _) (by omega) (by omega) _) ?_) | ((with_reducible refine AL.k_build ?_); first | refine AL.q rfl (OQ.buildA (ty := 81) (zs := [.int .i64 0, .int .i64 0, .int .i64 0, .int .i64 0, .int .i64 0, .int .i64 0]) (n := 2) (k := 3) (g := true) (by kernel_rfl) rfl (by kernel_rfl) rfl rfl rfl) ?_)); (conv => (arg 5; try tactic => exact nrm)))
      | ((first | ((with_reducible refine AL.k_store ?_); first | (refine AL.w rfl (OW.store (ty := 120) (n := 3) rfl (by conv => lhs; whnf) rfl rfl (by kernel_rfl) rfl rfl (by decide) rfl (Nat.le_of_ble_eq_true rfl) (by intro r h; cases h)) ?_) | (refine AL.w rfl (OW.store (ty := 81) (n := 6) rfl (by conv => lhs; whnf) rfl rfl (by kernel_rfl) rfl rfl (by decide) rfl (Nat.le_of_ble_eq_true rfl) (by intro r h; cases h)) ?_) | (refine AL.w rfl (OW.store (ty := 55) (n := 5) rfl (by conv => lhs; whnf) rfl rfl (by kernel_rfl) rfl rfl (by decide) rfl (Nat.le_of_ble_eq_true rfl) (by intro r h; cases h)) ?_) | (refine AL.w rfl (OW.store (ty := 80) (n := 2) rfl (by conv => lhs; whnf) rfl rfl (by kernel_rfl) rfl rfl (by decide) rfl (Nat.le_of_ble_eq_true rfl) (by intro r h; cases h)) ?_)) | ((with_reducible refine AL.k_alloc ?_); first | refine AL.w rfl (OW.alloc (ty := 81) (z := [.int .i64 0, .int .i64 0, .int .i64 0, .int .i64 0, .int .i64 0, .int .i64 0]) (by kernel_rfl) rfl) ?_ | refine AL.w rfl (OW.alloc (ty := 120) (z := [.string ⟨#[]⟩, .int .i64 0, .slice none 0 0]) (by kernel_rfl) rfl) ?_ | refine AL.w rfl (OW.alloc (ty := 55) (z := [.int .i64 0, .int .i64 0, .int .i64 0, .int .i64 0, .int .i64 0]) (by kernel_rfl) rfl) ?_) | ((with_reducible refine AL.k_box ?_); first | (refine AL.w rfl (OW.box (by conv => lhs; whnf) (by intro r h; cases h)) ?_))); (conv => (arg 5; try tactic => exact nrm)); (conv => (arg 6; try tactic => exact nrm)))
      | refine AL.nil ?_)
    | ((with_reducible refine AW.on ?_); first
      | refine AW.seq ?_
      | refine AW.skip ?_
      | refine AW.exit ?_
      | refine AW.ret ?_
      | (refine AW.block (id := 0) ?_; refine AW.unroll 4 ?_)
      | refine AW.block ?_
      | (refine AW.draw (id := 8) 8 #[0, 1, 3, 0, 8, 31, 63, 0] (by kernel_rfl) (by kernel_rfl) ?_; (conv => (arg 8; simp only [List.take_succ_cons, List.take_zero])))
      | (refine AW.draw (id := 13) 9 #[0, 0, 0, 6, 0, 0, 48, 126, 255, 511] (by kernel_rfl) (by kernel_rfl) ?_; (conv => (arg 8; simp only [List.take_succ_cons, List.take_zero])))
      | refine AW.region ?_
      | (refine AW.conds rfl (fun hc => ?_) (fun hc => ?_) <;> (try simp only [decide_eq_true_eq, decide_eq_false_iff_not, Bool.not_true, Bool.not_false, Bool.not_eq_true', Bool.not_eq_false', Int.not_lt, Int.not_le, Classical.not_not, ne_eq] at hc) <;> first | (exfalso; first | contradiction | (omega); done) | skip))
    | ((with_reducible refine AD.on ?_); first
      | ((first | ((with_reducible refine AD.k_move ?_); first | (refine AD.q rfl (OQ.move (by conv => lhs; whnf)) rfl rfl rfl ?_)) | ((with_reducible refine AD.k_load ?_); first | refine AD.q rfl (OQ.loadN (ty := 26) (n := 3) rfl (by kernel_rfl) (by kernel_rfl) rfl) rfl rfl rfl ?_) | ((with_reducible refine AD.k_binOp ?_); first | refine AD.q rfl (OQ.quoi rfl rfl (by exact gcd_ne (by omega)) (by exact tdiv_ok (by omega))) rfl rfl rfl ?_ | refine AD.q rfl (OQ.quo rfl rfl (by exact gcd_ne (by omega))) rfl rfl rfl ?_) | ((with_reducible refine AD.k_fieldAddr ?_); first | refine AD.q rfl (OQ.fieldA (ty := 55) (i := 1) (n := 3) (off := 1) (g := true) rfl (by kernel_rfl) (by decide)) rfl rfl rfl ?_) | ((with_reducible refine AD.k_indexAddr ?_); first | refine AD.q rfl (OQ.idxPtr (ty := 81) (n := 2) (l := 3) (g := true) rfl rfl (by kernel_rfl) (by omega) (by omega)) rfl rfl rfl ?_)); (conv => (arg 10; try tactic => exact nrm)))
      | ((first | ((with_reducible refine AD.k_call ?_); first | refine AD.pcall (g := 79) rfl (by kernel_rfl) rfl (vectorOf_p _ _ _ _) rfl rfl ?_ | refine AD.pcall (g := 78) rfl (by kernel_rfl) rfl (less_p _ _ _ _ _ _ (by omega) (by omega) (by omega) _) rfl rfl ?_) | ((with_reducible refine AD.k_build ?_); first | refine AD.q rfl (OQ.buildS (ty := 80) (zs := [.int .i64 0, .int .i64 0]) (pls := [(0, 1), (1, 1)]) (by kernel_rfl) rfl (by kernel_rfl) rfl rfl rfl) rfl rfl rfl ?_)); (conv => (arg 10; try tactic => exact nrm)))
      | (refine AD.nil ?_; (conv => (arg 4; simp only [List.drop_succ_cons, List.drop_zero, List.drop_nil])); (conv => (arg 5; try tactic => exact nrm)); (conv => (arg 6; try tactic => exact nrm))))
    | with_reducible refine AR.s ?_
    | ((with_reducible refine AR.out ?_); omega; done)
    | ((with_reducible refine FinP.on ?_); (first | refine FinP.ret (.cellN (n := 6) (by conv => lhs; whnf) (by kernel_rfl) (by kernel_rfl) rfl (.tmp (by conv => lhs; whnf) .nil)) ?_ rfl | refine FinP.end (.cellN (n := 6) (by conv => lhs; whnf) (by kernel_rfl) (by kernel_rfl) rfl (.tmp (by conv => lhs; whnf) .nil)) ?_ rfl); (try simp only [pack, List.drop, List.take]); all_goals (rfl)))

theorem coordinates_p (x y z : Int) (m : Mem) : PCalls Try.prog 96 [v3 x y z] m (v3 x y z) := PCalls.of_calls rfl rfl fun w => coordinates_any x y z w
theorem rless_p (x y z a b c : Int) (hx : -4000000000000000000 ≤ x - a ∧ x - a ≤ 4000000000000000000) (hy : -4000000000000000000 ≤ y - b ∧ y - b ≤ 4000000000000000000) (hz : -4000000000000000000 ≤ z - c ∧ z - c ≤ 4000000000000000000) (m : Mem) :
    PCalls Try.prog 95 [v3 x y z, v3 a b c] m (v3 (x - a) (y - b) (z - c)) := PCalls.of_calls rfl rfl fun w => rless_any x y z a b c w hx hy hz

theorem Lowest_p (n d : Int) (hn : -1000000000000 ≤ n ∧ n ≤ 1000000000000) (hd : 1 ≤ d ∧ d ≤ 1000000000000) (m : Mem) : PCalls Try.prog 109 [.int .i64 n, .int .i64 d] m (.agg #[.int .i64 (frN n d), .int .i64 (frD n d)]) := by
  refine PCalls.any ?_ rfl rfl m
  refine PCalls.enter (t := [.int .i64 n, .int .i64 d, undef, undef, undef, undef, undef, undef, undef, undef, undef, undef, undef, undef, undef, undef, undef, undef, undef, undef]) Try.func109 rfl (ro_nil) rfl fun E => ?_
  repeat' (first
    | with_reducible refine Then.n ?_
    | with_reducible refine Then.r ?_
    | with_reducible refine Then.x ?_
    | with_reducible refine InB.n ?_
    | with_reducible refine InB.r ?_
    | with_reducible refine InB.hit ?_
    | with_reducible refine InB.miss (by decide) ?_
    | ((with_reducible refine AL.on ?_); first
      | ((first | ((with_reducible refine AL.k_move ?_); first | (refine AL.q rfl (OQ.move (by conv => lhs; whnf)) ?_)) | ((with_reducible refine AL.k_binOp ?_); first | refine AL.q rfl (OQ.lss rfl rfl) ?_) | ((with_reducible refine AL.k_assign ?_); first | (refine AL.q rfl (OQ.assign (by conv => lhs; whnf)) ?_)) | ((with_reducible refine AL.k_unOp ?_); first | refine AL.q rfl (OQ.negi rfl (by omega)) ?_ | refine AL.q rfl (OQ.neg rfl) ?_)); (conv => (arg 5; try tactic => exact nrm)))
      | ((first | first | refine AL.pcall (g := 122) rfl (by kernel_rfl) rfl (Gcd_p _ _ (by omega) (by omega) _) ?_); (conv => (arg 5; try tactic => exact nrm)))
      | ((first | ((with_reducible refine AL.k_alloc ?_); first | refine AL.w rfl (OW.alloc (ty := 80) (z := [.int .i64 0, .int .i64 0]) (by kernel_rfl) rfl) ?_) | ((with_reducible refine AL.k_store ?_); first | (refine AL.w rfl (OW.store (ty := 80) (n := 2) rfl (by conv => lhs; whnf) rfl rfl (by kernel_rfl) rfl rfl (by decide) rfl (Nat.le_of_ble_eq_true rfl) (by intro r h; cases h)) ?_))); (conv => (arg 5; try tactic => exact nrm)); (conv => (arg 6; try tactic => exact nrm)))
      | refine AL.nil ?_)
    | ((with_reducible refine AW.on ?_); first
      | refine AW.seq ?_
      | refine AW.skip ?_
      | refine AW.exit ?_
      | refine AW.ret ?_
      | refine AW.block ?_
      | (refine AW.draw (id := 4) 7 #[0, 0, 3, 0, 0, 24, 63, 127] (by kernel_rfl) (by kernel_rfl) ?_; (conv => (arg 8; simp only [List.take_succ_cons, List.take_zero])))
      | refine AW.region ?_
      | (refine AW.conds rfl (fun hc => ?_) (fun hc => ?_) <;> (try simp only [decide_eq_true_eq, decide_eq_false_iff_not, Bool.not_true, Bool.not_false, Bool.not_eq_true', Bool.not_eq_false', Int.not_lt, Int.not_le, Classical.not_not, ne_eq] at hc) <;> first | (exfalso; first | contradiction | (omega); done) | skip))
    | ((with_reducible refine AD.on ?_); first
      | ((first | ((with_reducible refine AD.k_move ?_); first | (refine AD.q rfl (OQ.move (by conv => lhs; whnf)) rfl rfl rfl ?_)) | ((with_reducible refine AD.k_binOp ?_); first | (refine AD.q rfl (OQ.quoi rfl rfl (by (rw [Int.gcd_comm]; exact gcd_ne (by omega))) (by exact tdiv_ok (by omega))) rfl rfl rfl ?_) | (refine AD.q rfl (OQ.quo rfl rfl (by (rw [Int.gcd_comm]; exact gcd_ne (by omega)))) rfl rfl rfl ?_))); (conv => (arg 10; try tactic => exact nrm)))
      | ((first | first | refine AD.q rfl (OQ.buildS (ty := 80) (zs := [.int .i64 0, .int .i64 0]) (pls := [(0, 1), (1, 1)]) (by kernel_rfl) rfl (by kernel_rfl) rfl rfl rfl) rfl rfl rfl ?_); (conv => (arg 10; try tactic => exact nrm)))
      | (refine AD.nil ?_; (conv => (arg 4; simp only [List.drop_succ_cons, List.drop_zero, List.drop_nil])); (conv => (arg 5; try tactic => exact nrm)); (conv => (arg 6; try tactic => exact nrm))))
    | ((with_reducible refine FinP.on ?_); (first | refine FinP.ret (.cellN (n := 2) (by conv => lhs; whnf) (by kernel_rfl) (by kernel_rfl) rfl .nil) ?_ rfl | refine FinP.end (.cellN (n := 2) (by conv => lhs; whnf) (by kernel_rfl) (by kernel_rfl) rfl .nil) ?_ rfl); (try simp only [pack, List.drop, List.take]); all_goals (unfold frN frD; rw [Int.gcd_comm d n])))

theorem rSpeedOf_p (nm : ByteArray) (bd k : Int) (l : List St) (hR : Right bd l) (hk : arcB l k = true) :
    PCalls Try.prog 49 [obA nm bd 0 l, .int .i64 k] [some ⟨flatS l, false, 0⟩] (spV (arcA l k) (arcZ l k)) := by
  have hA0 : arcE l k = 0 := by unfold arcE; rw [if_pos hk]
  obtain ⟨-, e1, e2, m0, m1⟩ := arc_zero hA0
  obtain ⟨j, rfl⟩ := Int.eq_ofNat_of_zero_le m0
  simp only [Int.toNat_natCast] at e1 e2 m1
  have hn40 := hR.n40
  have oka := hR.ok j (by omega)
  have okb := hR.ok (j + 1) m1
  have hup := hR.up j m1
  have hla := fun (m : Mem) (hm : m.at 0 = some ⟨flatS l, false, 0⟩) => ld_st hm rfl j (by omega)
  have hlb := fun (m : Mem) (hm : m.at 0 = some ⟨flatS l, false, 0⟩) => ld_st hm rfl (j + 1) (by omega)
  rw [e1, e2]
  clear e1 e2 hk hA0
  generalize at_ l j = sa at *
  generalize at_ l (j + 1) = sb at *
  obtain ⟨p1, p2, p3, p4, p5⟩ := sa
  obtain ⟨q1, q2, q3, q4, q5⟩ := sb
  obtain ⟨oa1, oa2, oa3, oa4, oa5, oa6, oa7, oa8, _, _⟩ := oka
  obtain ⟨ob1, ob2, ob3, ob4, ob5, ob6, ob7, ob8, _, _⟩ := okb
  simp only [stC] at *
  have hj : ((j : Int) + 1).toNat = j + 1 := rfl
  refine PCalls.enter (t := [obA nm bd 0 l, .int .i64 j, undef, undef, undef, undef, undef, undef, undef, undef, undef, undef, undef, undef, undef, undef, undef, undef, undef, undef, undef, undef, undef, undef, undef, undef, undef, undef, undef, undef, undef, undef, undef, undef, undef, undef, undef, undef, undef, undef, undef, undef, undef, undef]) Try.func49 rfl (ro_one _ _) rfl fun E => ?_
  repeat' (first
    | with_reducible refine Then.n ?_
    | with_reducible refine Then.r ?_
    | with_reducible refine Then.x ?_
    | with_reducible refine InB.n ?_
    | with_reducible refine InB.r ?_
    | with_reducible refine InB.hit ?_
    | with_reducible refine InB.miss (by decide) ?_
    | ((with_reducible refine AL.on ?_); first
      | ((first | ((with_reducible refine AL.k_load ?_); first | refine AL.q rfl (OQ.loadN (ty := 81) (n := 6) rfl (by kernel_rfl) (by kernel_rfl) (by first | (first | exact hla _ rfl | exact hlb _ rfl) | rfl)) ?_) | ((with_reducible refine AL.k_move ?_); first | (refine AL.q rfl (OQ.move (by conv => lhs; whnf)) ?_)) | ((with_reducible refine AL.k_binOp ?_); first | refine AL.q rfl (OQ.lss rfl rfl) ?_ | refine AL.q rfl (OQ.addi rfl rfl (by omega)) ?_ | refine AL.q rfl (OQ.add rfl rfl) ?_) | ((with_reducible refine AL.k_assign ?_); first | (refine AL.q rfl (OQ.assign (by conv => lhs; whnf)) ?_))); (conv => (arg 5; try tactic => exact nrm)))
      | ((first | ((with_reducible refine AL.k_alloc ?_); first | refine AL.w rfl (OW.alloc (ty := 81) (z := [.int .i64 0, .int .i64 0, .int .i64 0, .int .i64 0, .int .i64 0, .int .i64 0]) (by kernel_rfl) rfl) ?_) | ((with_reducible refine AL.k_store ?_); first | (refine AL.w rfl (OW.store (ty := 80) (n := 2) rfl (by conv => lhs; whnf) rfl rfl (by kernel_rfl) rfl rfl (by decide) rfl (Nat.le_of_ble_eq_true rfl) (by intro r h; cases h)) ?_) | (refine AL.w rfl (OW.store (ty := 81) (n := 6) rfl (by conv => lhs; whnf) rfl rfl (by kernel_rfl) rfl rfl (by decide) rfl (Nat.le_of_ble_eq_true rfl) (by intro r h; cases h)) ?_)) | ((with_reducible refine AL.k_box ?_); first | (refine AL.w rfl (OW.box (by conv => lhs; whnf) (by intro r h; cases h)) ?_))); (conv => (arg 5; try tactic => exact nrm)); (conv => (arg 6; try tactic => exact nrm)))
      | refine AL.nil ?_)
    | ((with_reducible refine AW.on ?_); first
      | refine AW.seq ?_
      | refine AW.skip ?_
      | refine AW.exit ?_
      | refine AW.ret ?_
      | (refine AW.block (id := 0) ?_; refine AW.unroll 4 ?_)
      | refine AW.block ?_
      | (refine AW.draw (id := 1) 15 #[0, 1, 0, 7, 15, 0, 32, 0, 128, 480, 992, 0, 0, 6175, 16383] (by kernel_rfl) (by kernel_rfl) ?_; (conv => (arg 8; simp only [List.take_succ_cons, List.take_zero])))
      | (refine AW.draw (id := 2) 9 #[0, 1, 3, 0, 8, 31, 63, 0, 255] (by kernel_rfl) (by kernel_rfl) ?_; (conv => (arg 8; simp only [List.take_succ_cons, List.take_zero])))
      | (refine AW.draw (id := 7) 11 #[0, 0, 2, 6, 0, 16, 0, 64, 240, 510, 1023, 2047] (by kernel_rfl) (by kernel_rfl) ?_; (conv => (arg 8; simp only [List.take_succ_cons, List.take_zero])))
      | refine AW.region ?_
      | (refine AW.conds rfl (fun hc => ?_) (fun hc => ?_) <;> (try simp only [decide_eq_true_eq, decide_eq_false_iff_not, Bool.not_true, Bool.not_false, Bool.not_eq_true', Bool.not_eq_false', Int.not_lt, Int.not_le, Classical.not_not, ne_eq] at hc) <;> first | (exfalso; first | contradiction | (omega); done) | skip))
    | ((with_reducible refine AD.on ?_); first
      | ((first | ((with_reducible refine AD.k_load ?_); first | (refine AD.q rfl (OQ.load1 (ty := 22) rfl (by kernel_rfl) (by first | (first | exact hla _ rfl | exact hlb _ rfl) | (conv => lhs; whnf))) rfl rfl rfl ?_) | refine AD.q rfl (OQ.loadN (ty := 55) (n := 5) rfl (by kernel_rfl) (by kernel_rfl) (by first | (first | exact hla _ rfl | exact hlb _ rfl) | rfl)) rfl rfl rfl ?_ | refine AD.q rfl (OQ.loadN (ty := 26) (n := 3) rfl (by kernel_rfl) (by kernel_rfl) (by first | (first | exact hla _ rfl | exact hlb _ rfl) | rfl)) rfl rfl rfl ?_ | (refine AD.q rfl (OQ.load1 (ty := 3) rfl (by kernel_rfl) (by first | (first | exact hla _ rfl | exact hlb _ rfl) | (conv => lhs; whnf))) rfl rfl rfl ?_)) | ((with_reducible refine AD.k_move ?_); first | (refine AD.q rfl (OQ.move (by conv => lhs; whnf)) rfl rfl rfl ?_)) | ((with_reducible refine AD.k_binOp ?_); first | refine AD.q rfl (OQ.addi rfl rfl (by omega)) rfl rfl rfl ?_ | refine AD.q rfl (OQ.add rfl rfl) rfl rfl rfl ?_ | refine AD.q rfl (OQ.subi rfl rfl (by omega)) rfl rfl rfl ?_ | refine AD.q rfl (OQ.sub rfl rfl) rfl rfl rfl ?_)); (conv => (arg 10; try tactic => exact nrm)))
      | ((first | ((with_reducible refine AD.k_fieldAddr ?_); first | refine AD.q rfl (OQ.fieldA (ty := 24) (i := 2) (n := 1) (off := 2) (g := false) rfl (by kernel_rfl) (by decide)) rfl rfl rfl ?_ | refine AD.q rfl (OQ.fieldA (ty := 55) (i := 1) (n := 3) (off := 1) (g := true) rfl (by kernel_rfl) (by decide)) rfl rfl rfl ?_ | refine AD.q rfl (OQ.fieldA (ty := 55) (i := 0) (n := 1) (off := 0) (g := false) rfl (by kernel_rfl) (by decide)) rfl rfl rfl ?_) | ((with_reducible refine AD.k_indexAddr ?_); first | refine AD.q rfl (OQ.idxAddr (ty := 22) (z := 5) (g := true) rfl rfl (by kernel_rfl) (by omega) (by omega)) rfl rfl rfl ?_ | refine AD.q rfl (OQ.idxPtr (ty := 67) (n := 1) (l := 3) (g := false) rfl rfl (by kernel_rfl) (by omega) (by omega)) rfl rfl rfl ?_ | refine AD.q rfl (OQ.idxPtr (ty := 81) (n := 2) (l := 3) (g := true) rfl rfl (by kernel_rfl) (by omega) (by omega)) rfl rfl rfl ?_) | ((with_reducible refine AD.k_call ?_); first | refine AD.pcall (g := 96) rfl (by kernel_rfl) rfl (coordinates_p _ _ _ _) rfl rfl ?_ | refine AD.pcall (g := 95) rfl (by kernel_rfl) rfl (rless_p _ _ _ _ _ _ (by omega) (by omega) (by omega) _) rfl rfl ?_ | refine AD.pcall (g := 109) rfl (by kernel_rfl) rfl (Lowest_p _ _ (by omega) (by omega) _) rfl rfl ?_)); (conv => (arg 10; try tactic => exact nrm)))
      | ((first | ((with_reducible refine AD.k_alloc ?_); first | refine AD.new (ty := 55) (z := [.int .i64 0, .int .i64 0, .int .i64 0, .int .i64 0, .int .i64 0]) rfl rfl rfl (by kernel_rfl) rfl (Nat.lt_of_lt_of_le (Nat.lt_succ_self _) (Nat.le_of_ble_eq_true rfl)) rfl ?_ | refine AD.new (ty := 67) (z := [.int .i64 0, .int .i64 0, .int .i64 0]) rfl rfl rfl (by kernel_rfl) rfl (Nat.lt_of_lt_of_le (Nat.lt_succ_self _) (Nat.le_of_ble_eq_true rfl)) rfl ?_) | ((with_reducible refine AD.k_store ?_); first | (refine AD.init (ty := 55) (p := 0) rfl rfl rfl rfl rfl rfl (by kernel_rfl) (by conv => lhs; whnf) rfl (by kernel_rfl) rfl rfl rfl (by intro r h; cases h) ?_) | (refine AD.init (ty := 55) (p := 1) rfl rfl rfl rfl rfl rfl (by kernel_rfl) (by conv => lhs; whnf) rfl (by kernel_rfl) rfl rfl rfl (by intro r h; cases h) ?_) | (refine AD.init (ty := 67) (p := 0) rfl rfl rfl rfl rfl rfl (by kernel_rfl) (by conv => lhs; whnf) rfl (by kernel_rfl) rfl rfl rfl (by intro r h; cases h) ?_))); (conv => (arg 10; try tactic => exact nrm)); (conv => (arg 9; try dsimp only [Nat.reduceAdd])); (conv => (arg 11; try tactic => exact nrm)))
      | (refine AD.nil ?_; (conv => (arg 4; simp only [List.drop_succ_cons, List.drop_zero, List.drop_nil])); (conv => (arg 5; try tactic => exact nrm)); (conv => (arg 6; try tactic => exact nrm))))
    | with_reducible refine AR.s ?_
    | ((with_reducible refine AR.out ?_); omega; done)
    | ((with_reducible refine FinP.on ?_); (first | refine FinP.ret (.cellN (n := 6) (by conv => lhs; whnf) (by kernel_rfl) (by kernel_rfl) rfl .nil) ?_ rfl | refine FinP.end (.cellN (n := 6) (by conv => lhs; whnf) (by kernel_rfl) (by kernel_rfl) rfl .nil) ?_ rfl); (try simp only [pack, List.drop, List.take]); all_goals (rfl)))
end Go.Proofs.Ythpjhpfebjjanaa
