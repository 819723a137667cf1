/- Chapter 8: fractions in lowest terms. -/
import Derived.Test.YtmghmmmfdbafoaaGreatDoor08b
set_option linter.unusedSimpArgs false
set_option linter.unusedVariables false
namespace Go.Proofs.YtmghmmmfdbafoaaGreatDoor
open Go Go.RowKit Go.Ab Go.Sr
set_option maxRecDepth 100000
set_option maxHeartbeats 2000000
attribute [local irreducible] OQ OW AL AW AD AF SW

theorem gcd_step (a b : Int) : Int.gcd b (a.tmod b) = Int.gcd a b := by
  unfold Int.gcd
  rw [Int.natAbs_tmod, Nat.gcd_comm b.natAbs, ← Nat.gcd_rec, Nat.gcd_comm]
theorem gtmod_bd {a b M : Int} (ha : -M ≤ a ∧ a ≤ M) : -M ≤ a.tmod b ∧ a.tmod b ≤ M := by
  have h1 : (a.tmod b).natAbs ≤ a.natAbs := by rw [Int.natAbs_tmod]; exact Nat.mod_le _ _
  omega
theorem gtdiv_bd {a b M : Int} (ha : -M ≤ a ∧ a ≤ M) : -M ≤ a.tdiv b ∧ a.tdiv b ≤ M := by
  have h1 : (a.tdiv b).natAbs ≤ a.natAbs := by rw [Int.natAbs_tdiv]; exact Nat.div_le_self _ _
  omega
theorem natAbs_tmod_lt {a b : Int} (h : b ≠ 0) : (a.tmod b).natAbs < b.natAbs := by
  rw [Int.natAbs_tmod]
  exact Nat.mod_lt _ (by omega)

/-- The divisor with the sign of the denominator; a fraction in lowest terms. -/
def frG (n d : Int) : Int := if d < 0 then -(Int.gcd n d : Int) else (Int.gcd n d : Int)
def frN (n d : Int) : Int := n.tdiv (frG n d)
def frD (n d : Int) : Int := d.tdiv (frG n d)
theorem gcd_pos {n d : Int} (h : d ≠ 0) : 0 < (Int.gcd n d : Int) := by
  have := Int.gcd_pos_of_ne_zero_right n h
  omega
def frSm (n d : Int) : Bool := rngB (frN n d) (-1000000000) 1000000000 && rngB (frD n d) 1 1000000000
def frE (n d : Int) : Int := if frSm n d = true then 0 else 8
def frV (n d : Int) : Value := if frSm n d = true then .agg #[.int .i64 (frN n d), .int .i64 (frD n d)] else .agg #[.int .i64 0, .int .i64 0]
theorem fr_of {n d x : Int} (h0 : d ≠ 0) (hx : (x.natAbs : Int) = Int.gcd n d) : (d.tdiv x < 0 → -n.tdiv x = frN n d ∧ -d.tdiv x = frD n d) ∧ (¬ d.tdiv x < 0 → n.tdiv x = frN n d ∧ d.tdiv x = frD n d) ∧ 1 ≤ frD n d := by
  have hp := gcd_pos (n := n) h0
  have hdv : (Int.gcd n d : Int) ∣ d := Int.gcd_dvd_right ..
  have e1 : d < 0 → frG n d = -(Int.gcd n d : Int) := fun h => by unfold frG; rw [if_pos h]
  have e2 : ¬ d < 0 → frG n d = (Int.gcd n d : Int) := fun h => by unfold frG; rw [if_neg h]
  unfold frN frD
  generalize frG n d = s at *
  generalize (Int.gcd n d : Int) = g at *
  obtain ⟨k, hk⟩ := hdv
  have hd : d.tdiv g = k := by rw [hk]; exact Int.mul_tdiv_cancel_left k (by omega)
  have hdn : d.tdiv (-g) = -k := by rw [Int.tdiv_neg, hd]
  have hnn : n.tdiv (-g) = -n.tdiv g := Int.tdiv_neg ..
  have k1 : d < 0 → k < 0 := fun h => by
    rcases Int.lt_or_le k 0 with h' | h'
    · exact h'
    · have := Int.mul_nonneg (by omega : 0 ≤ g) h'; omega
  have k2 : ¬ d < 0 → 0 < k := fun h => by
    rcases Int.lt_or_le 0 k with h' | h'
    · exact h'
    · have := Int.mul_nonneg (by omega : 0 ≤ g) (by omega : 0 ≤ -k)
      rw [Int.mul_neg] at this
      omega
  by_cases hs : d < 0
  · have e := e1 hs
    subst e
    have := k1 hs
    rcases (by omega : x = g ∨ x = -g) with e | e
    · subst e
      rw [hd, hdn, hnn]
      omega
    · subst e
      rw [hdn, hnn]
      omega
  · have e := e2 hs
    subst e
    have := k2 hs
    rcases (by omega : x = s ∨ x = -s) with e | e
    · subst e
      rw [hd]
      omega
    · subst e
      rw [hdn, hnn, hd]
      omega

theorem fr_ok {n d a b : Int} (ha : a = frN n d) (hb : b = frD n d) (h1 : rngB a (-1000000000) 1000000000 = true) (h2 : b ≤ 1000000000) (hD : 1 ≤ frD n d) : Value.tuple #[.agg #[.int .i64 a, .int .i64 b], .int .i64 0] = .tuple #[frV n d, .int .i64 (frE n d)] := by
  subst ha
  subst hb
  have : frSm n d = true := by unfold frSm; rw [h1, rngB_true.2 ⟨hD, h2⟩]; rfl
  simp [frV, frE, this]
theorem fr_no {n d a b : Int} (ha : a = frN n d) (hb : b = frD n d) (h : rngB a (-1000000000) 1000000000 = false ∨ 1000000000 < b) : Value.tuple #[.agg #[.int .i64 0, .int .i64 0], .int .i64 8] = .tuple #[frV n d, .int .i64 (frE n d)] := by
  subst ha
  subst hb
  have : frSm n d = false := by
    unfold frSm
    rcases h with h | h
    · rw [h]; rfl
    · rw [show rngB (frD n d) 1 1000000000 = false from rngB_false.2 (by omega)]; simp
  simp [frV, frE, this]
theorem frac_q (n d : Int) (hn : -9000000000000000000 ≤ n ∧ n ≤ 9000000000000000000) (hd : -9000000000000000000 ≤ d ∧ d ≤ 9000000000000000000) (h0 : d ≠ 0) (m : Mem) :
    PCalls Tryz.prog 58 [.int .i64 n, .int .i64 d] m (.tuple #[frV n d, .int .i64 (frE n d)]) := by
  have hp := gcd_pos (n := n) h0
  have q1 := fun b => gtdiv_bd (b := b) hn
  have q2 := fun b => gtdiv_bd (b := b) hd
  refine PCalls.any ?_ rfl (by unfold frV; split <;> rfl) m
  refine PCalls.enter (t := [.int .i64 n, .int .i64 d, undef, undef, undef, undef, undef, undef, undef, undef, undef, undef, undef, undef, undef, undef, undef, undef, undef, undef, undef, undef, undef, undef, undef, undef, undef, undef, undef, undef, undef, undef, undef, undef, undef, undef, undef, undef, undef, undef, undef, undef, undef, undef, undef]) Tryz.func58 rfl (ro_nil) rfl fun E => ?_
  repeat' (first
    | with_reducible refine Then.n ?_
    | with_reducible refine Then.r ?_
    | with_reducible refine Then.x ?_
    | with_reducible refine InB.n ?_
    | with_reducible refine InB.r ?_
    | with_reducible refine InB.hit ?_
    | with_reducible refine InB.miss (by decide) ?_
    | ((with_reducible refine AL.on ?_); first
      | (refine AL.gd rfl ?_; first | (refine AL.gskip rfl rfl ?_; (conv => (arg 5; try tactic => exact nrm))) | (refine AL.gs1 rfl rfl (fun hc => ?_) (fun hc => ?_) <;> (try simp only [decide_eq_true_eq, decide_eq_false_iff_not, Bool.not_true, Bool.not_false, Bool.not_eq_true', Bool.not_eq_false', Int.not_lt, Int.not_le, Classical.not_not, ne_eq] at hc) <;> first | (exfalso; first | contradiction | (omega); done) | (conv => (arg 5; try tactic => exact nrm))) | (refine AL.gs0 rfl rfl (fun hc => ?_) (fun hc => ?_) <;> (try simp only [decide_eq_true_eq, decide_eq_false_iff_not, Bool.not_true, Bool.not_false, Bool.not_eq_true', Bool.not_eq_false', Int.not_lt, Int.not_le, Classical.not_not, ne_eq] at hc) <;> first | (exfalso; first | contradiction | (omega); done) | (conv => (arg 5; try tactic => exact nrm))))
      | ((first | ((with_reducible refine AL.k_move ?_); first | (refine AL.q rfl (OQ.move (by conv => lhs; whnf)) ?_)) | ((with_reducible refine AL.k_assign ?_); first | (refine AL.q rfl (OQ.assign (by conv => lhs; whnf)) ?_)) | ((with_reducible refine AL.k_binOp ?_); first | refine AL.q rfl (OQ.neq rfl rfl) ?_ | refine AL.q rfl (OQ.lss rfl rfl) ?_ | refine AL.q rfl (OQ.gtr rfl rfl) ?_) | ((with_reducible refine AL.k_load ?_); first | (refine AL.q rfl (OQ.load1 (ty := 3) rfl (by kernel_rfl) (by conv => lhs; whnf)) ?_) | refine AL.q rfl (OQ.loadN (ty := 40) (n := 2) rfl (by kernel_rfl) (by kernel_rfl) rfl) ?_) | ((with_reducible refine AL.k_fieldAddr ?_); first | refine AL.q rfl (OQ.fieldA (ty := 40) (i := 1) (n := 1) (off := 1) (g := false) rfl (by kernel_rfl) (by decide)) ?_ | refine AL.q rfl (OQ.fieldA (ty := 40) (i := 0) (n := 1) (off := 0) (g := false) rfl (by kernel_rfl) (by decide)) ?_) | ((with_reducible refine AL.k_unOp ?_); first | refine AL.q rfl (OQ.negi rfl (by omega)) ?_ | refine AL.q rfl (OQ.neg rfl) ?_ | refine AL.q rfl (OQ.not rfl) ?_) | ((with_reducible refine AL.k_pick ?_); first | (refine AL.q rfl (OQ.pickT rfl (by with_reducible rfl) (by conv => lhs; whnf)) ?_) | (refine AL.q rfl (OQ.pickF rfl (by with_reducible rfl) (by conv => lhs; whnf)) ?_))); (conv => (arg 5; try tactic => exact nrm)))
      | ((first | ((with_reducible refine AL.k_build ?_); first | refine AL.q rfl (OQ.buildS (ty := 40) (zs := [.int .i64 0, .int .i64 0]) (pls := [(0, 1), (1, 1)]) (by kernel_rfl) rfl (by kernel_rfl) rfl rfl rfl) ?_) | ((with_reducible refine AL.k_call ?_); first | refine AL.pcall (g := 47) rfl (by kernel_rfl) rfl (small_q _ _ (by decide) _) ?_)); (conv => (arg 5; try tactic => exact nrm)))
      | ((first | ((with_reducible refine AL.k_store ?_); first | (refine AL.w rfl (OW.store (ty := 40) (n := 2) rfl (by conv => lhs; whnf) rfl rfl (by kernel_rfl) rfl rfl (by decide) rfl (Nat.le_of_ble_eq_true rfl) (by intro r h; cases h)) ?_)) | ((with_reducible refine AL.k_alloc ?_); first | refine AL.w rfl (OW.alloc (ty := 40) (z := [.int .i64 0, .int .i64 0]) (by kernel_rfl) rfl) ?_)); (conv => (arg 5; try tactic => exact nrm)); (conv => (arg 6; try tactic => exact nrm)))
      | (refine AL.bs rfl (fun hc => ?_) (fun hc => ?_) <;> (fail_if_success (with_reducible exact lit_no hc)) <;> (try simp only [decide_eq_true_eq, decide_eq_false_iff_not, Bool.not_true, Bool.not_false, Bool.not_eq_true', Bool.not_eq_false', Int.not_lt, Int.not_le, Classical.not_not, ne_eq] at hc) <;> first | (exfalso; first | contradiction | (omega); done) | (conv => (arg 5; try tactic => exact nrm)))
      | refine AL.nil ?_)
    | ((with_reducible refine AW.on ?_); first
      | refine AW.seq ?_
      | refine AW.skip ?_
      | refine AW.exit ?_
      | refine AW.ret ?_
      | ((refine AW.block (id := 0) ?_); (refine AW.wk (Wk.forget [true, true, false, false, true, true, true, true, false, false, false, false, false, false, false, false, false, false, false, false, false, false, false, false, false, false, false, false, false, false, false, false, false, false, false, false, false, false, false, false, false, false, false, false, false] rfl) ?_); (conv => (arg 4; simp only [fgt, if_true, if_false, Bool.false_eq_true])); (refine AW.loop (fun k t m => ∃ x y : Int, k = y.natAbs ∧ (-9000000000000000000 ≤ x ∧ x ≤ 9000000000000000000) ∧ (-9000000000000000000 ≤ y ∧ y ≤ 9000000000000000000) ∧ Int.gcd x y = Int.gcd n d ∧ t = [.int .i64 n, .int .i64 d, junk, junk, .pointer (some ⟨0, 0, none⟩), .int .i64 0, .int .i64 x, .int .i64 y, junk, junk, junk, junk, junk, junk, junk, junk, junk, junk, junk, junk, junk, junk, junk, junk, junk, junk, junk, junk, junk, junk, junk, junk, junk, junk, junk, junk, junk, junk, junk, junk, junk, junk, junk, junk, junk] ∧ m = [some ⟨[.int .i64 0, .int .i64 0], true, 0⟩]) (d.natAbs) (by exact ⟨n, d, rfl, hn, hd, rfl, rfl, rfl⟩) ?_); (rintro k t m ⟨x, y, rfl, hx, hy, hg, rfl, rfl⟩))
      | refine AW.block ?_
      | (refine AW.draw (id := 3) 6 #[0, 0, 0, 6, 3, 31] (by kernel_rfl) (by kernel_rfl) ?_; (conv => (arg 8; simp only [List.take_succ_cons, List.take_zero])))
      | (refine AW.draw (id := 4) 9 #[0, 0, 3, 0, 0, 24, 63, 0, 255] (by kernel_rfl) (by kernel_rfl) ?_; (conv => (arg 8; simp only [List.take_succ_cons, List.take_zero])); (have hy0 : y = 0 := by omega); all_goals (rw [hy0, Int.gcd_zero] at hg); all_goals (have hxn : (x.natAbs : Int) = Int.gcd n d := by omega); all_goals (have hx0 : x ≠ 0 := by omega); all_goals (have r1 := q1 x); all_goals (have r2 := q2 x); all_goals (have hfr := fr_of h0 hxn))
      | refine AW.region ?_
      | (refine AW.conds rfl (fun hc => ?_) (fun hc => ?_) <;> (try simp only [decide_eq_true_eq, decide_eq_false_iff_not, Bool.not_true, Bool.not_false, Bool.not_eq_true', Bool.not_eq_false', Int.not_lt, Int.not_le, Classical.not_not, ne_eq] at hc) <;> first | (exfalso; first | contradiction | (omega); done) | skip))
    | ((with_reducible refine AD.on ?_); first
      | ((first | ((with_reducible refine AD.k_move ?_); first | (refine AD.q rfl (OQ.move (by conv => lhs; whnf)) rfl rfl rfl ?_)) | ((with_reducible refine AD.k_assign ?_); first | (refine AD.q rfl (OQ.assign (by conv => lhs; whnf)) rfl rfl rfl ?_)) | ((with_reducible refine AD.k_binOp ?_); first | refine AD.q rfl (OQ.rem rfl rfl (by omega)) rfl rfl rfl ?_ | refine AD.q rfl (OQ.quoi rfl rfl (by omega) (by omega)) rfl rfl rfl ?_ | refine AD.q rfl (OQ.quo rfl rfl (by omega)) rfl rfl rfl ?_)); (conv => (arg 10; try tactic => exact nrm)))
      | ((first | first | refine AD.q rfl (OQ.buildS (ty := 40) (zs := [.int .i64 0, .int .i64 0]) (pls := [(0, 1), (1, 1)]) (by kernel_rfl) rfl (by kernel_rfl) rfl rfl rfl) rfl rfl rfl ?_); (conv => (arg 10; try tactic => exact nrm)))
      | ((first | ((with_reducible refine AD.k_store ?_); first | (refine AD.init (ty := 40) (p := 0) rfl rfl rfl rfl rfl rfl (by kernel_rfl) (by conv => lhs; whnf) rfl (by kernel_rfl) rfl rfl rfl (by intro r h; cases h) ?_)) | ((with_reducible refine AD.k_alloc ?_); first | refine AD.new (ty := 40) (z := [.int .i64 0, .int .i64 0]) rfl rfl rfl (by kernel_rfl) rfl (Nat.lt_of_lt_of_le (Nat.lt_succ_self _) (Nat.le_of_ble_eq_true rfl)) rfl ?_)); (conv => (arg 10; try tactic => exact nrm)); (conv => (arg 9; try dsimp only [Nat.reduceAdd])); (conv => (arg 11; try tactic => exact nrm)))
      | (refine AD.nil ?_; (conv => (arg 4; simp only [List.drop_succ_cons, List.drop_zero, List.drop_nil])); (conv => (arg 5; try tactic => exact nrm)); (conv => (arg 6; try tactic => exact nrm))))
    | ((with_reducible refine ex_on ?_); exact ⟨_, _, _, natAbs_tmod_lt ‹¬ y = 0›, Wk.forget [true, true, false, false, true, true, true, true, false, false, false, false, false, false, false, false, false, false, false, false, false, false, false, false, false, false, false, false, false, false, false, false, false, false, false, false, false, false, false, false, false, false, false, false, false] rfl, y, x.tmod y, rfl, hy, gtmod_bd hx, (gcd_step x y).trans hg, rfl, rfl⟩)
    | ((with_reducible refine FinP.on ?_); (first | refine FinP.ret (.cellN (n := 2) (by conv => lhs; whnf) (by kernel_rfl) (by kernel_rfl) rfl (.tmp (by conv => lhs; whnf) .nil)) ?_ (by unfold frV; split <;> rfl) | refine FinP.end (.cellN (n := 2) (by conv => lhs; whnf) (by kernel_rfl) (by kernel_rfl) rfl (.tmp (by conv => lhs; whnf) .nil)) ?_ (by unfold frV; split <;> rfl)); (try simp only [pack, List.drop, List.take]); all_goals (first | exact fr_ok (hfr.1 (by omega)).1 (hfr.1 (by omega)).2 (by assumption) (by assumption) hfr.2.2 | exact fr_ok (hfr.2.1 (by omega)).1 (hfr.2.1 (by omega)).2 (by assumption) (by assumption) hfr.2.2 | exact fr_no (hfr.1 (by omega)).1 (hfr.1 (by omega)).2 (by first | exact .inl (by assumption) | exact .inr (by assumption)) | exact fr_no (hfr.2.1 (by omega)).1 (hfr.2.1 (by omega)).2 (by first | exact .inl (by assumption) | exact .inr (by assumption)))))
end Go.Proofs.YtmghmmmfdbafoaaGreatDoor
