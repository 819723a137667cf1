/- Chapter 6: dispersions (the program's). -/
import Derived.Test.YtmohcmghbfhdlaaQc
import Derived.Test.YtmohcmghbfhdlaaQd
section
set_option linter.unusedSimpArgs false
set_option linter.unusedVariables false
section
namespace Go.Me
open Go.Ab
def numC (n : Int) : List Value := [.int .i64 n]
def flatN (l : List Int) : List Value := l.map fun n => .int .i64 n
def nt (l : List Int) (k : Nat) : Int := l.getD k 0
theorem flatN_flat (l : List Int) : l.flatMap numC = flatN l := by
  induction l with
  | nil => rfl
  | cons a l ih => rw [List.flatMap_cons, ih]; rfl
theorem flatN_scal (l : List Int) : (flatN l).all Ab.scal = true := by
  rw [← flatN_flat]
  exact Ls.flat_scal numC (fun _ => rfl) l
theorem flatN_get (l : List Int) (k : Nat) (hk : k < l.length) : (flatN l)[k]? = some (.int .i64 (nt l k)) := by
  unfold flatN nt
  rw [List.getElem?_map, List.getElem?_eq_getElem hk, List.getD_eq_getElem?_getD, List.getElem?_eq_getElem hk]
  rfl
def dsS (l : List Int) : Nat → Int
  | 0 => 0
  | k + 1 => dsS l k + nt l k
def dsQ (l : List Int) : Nat → Int
  | 0 => 0
  | k + 1 => dsQ l k + nt l k * nt l k
def dsOk (l : List Int) : Bool := decide (∀ k, k < l.length → 0 ≤ nt l k ∧ nt l k ≤ 3000)
def dsE (l : List Int) : Int := if l.length < 2 then 10 else if 60 < l.length then 8 else if dsOk l = true then (if dsS l l.length = 0 then 11 else 0) else 2
def dsN (l : List Int) : Int := l.length * dsQ l l.length - dsS l l.length * dsS l l.length
def dsD (l : List Int) : Int := dsS l l.length * dsS l l.length
def dsA (l : List Int) : Int := if dsE l = 0 then (dsN l).tdiv (Int.gcd (dsN l) (dsD l)) else 0
def dsB (l : List Int) : Int := if dsE l = 0 then (dsD l).tdiv (Int.gcd (dsN l) (dsD l)) else 0
theorem sq_nn (a : Int) : 0 ≤ a * a := by
  rcases Int.le_total 0 a with h | h
  · exact Int.mul_nonneg h h
  · have := Int.mul_nonneg (a := -a) (b := -a) (by omega) (by omega)
    rwa [Int.neg_mul_neg] at this
theorem ds_var (l : List Int) (a : Int) : ∀ k : Nat, 0 ≤ dsQ l k - 2 * (a * dsS l k) + k * (a * a) := by
  intro k
  induction k with
  | zero => simp [dsQ, dsS]
  | succ k ih =>
    have := sq_nn (nt l k - a)
    unfold dsQ dsS
    have e : dsQ l k + nt l k * nt l k - 2 * (a * (dsS l k + nt l k)) + ((k + 1 : Nat) : Int) * (a * a) = (dsQ l k - 2 * (a * dsS l k) + k * (a * a)) + (nt l k - a) * (nt l k - a) := by
      rw [Int.natCast_add]
      grind
    omega
theorem ds_nn (l : List Int) : ∀ k : Nat, 0 ≤ k * dsQ l k - dsS l k * dsS l k := by
  intro k
  induction k with
  | zero => simp [dsQ, dsS]
  | succ k ih =>
    have := ds_var l (nt l k) k
    unfold dsQ dsS
    have e : ((k + 1 : Nat) : Int) * (dsQ l k + nt l k * nt l k) - (dsS l k + nt l k) * (dsS l k + nt l k) = (k * dsQ l k - dsS l k * dsS l k) + (dsQ l k - 2 * (nt l k * dsS l k) + k * (nt l k * nt l k)) := by
      rw [Int.natCast_add]
      grind
    omega
theorem ds_bd {l : List Int} : ∀ k : Nat, (∀ j, j < k → 0 ≤ nt l j ∧ nt l j ≤ 3000) → (0 ≤ dsS l k ∧ dsS l k ≤ 3000 * k) ∧ 0 ≤ dsQ l k ∧ dsQ l k ≤ 9000000 * k := by
  intro k
  induction k with
  | zero => intro _; simp [dsQ, dsS]
  | succ k ih =>
    intro h
    obtain ⟨h1, h2⟩ := ih (fun j hj => h j (by omega))
    have h3 := h k (by omega)
    have h4 := sq_nn (nt l k)
    have h5 := mul_bd (m := nt l k) (n := nt l k) (a := 3000) (b := 3000) (by omega) (by omega) (by decide)
    unfold dsQ dsS
    omega
theorem gcd_step (a b : Int) : Int.gcd b (a.tmod b) = Int.gcd a b := by
  unfold Int.gcd
  rw [Int.natAbs_tmod, Nat.gcd_comm b.natAbs, ← Nat.gcd_rec, Nat.gcd_comm]
theorem natAbs_tmod_lt {a b : Int} (h : b ≠ 0) : (a.tmod b).natAbs < b.natAbs := by
  rw [Int.natAbs_tmod]
  exact Nat.mod_lt _ (by omega)
theorem gtmod_bd {a b M : Int} (ha : 0 ≤ a ∧ a ≤ M) : 0 ≤ a.tmod b ∧ a.tmod b ≤ M := by
  have h1 : (a.tmod b).natAbs ≤ a.natAbs := by rw [Int.natAbs_tmod]; exact Nat.mod_le _ _
  have h2 := Int.tmod_nonneg b ha.1
  omega
theorem gtdiv_bd {a b M : Int} (ha : -M ≤ a ∧ a ≤ M) : -M ≤ a.tdiv b ∧ a.tdiv b ≤ M := by
  have h1 : (a.tdiv b).natAbs ≤ a.natAbs := by rw [Int.natAbs_tdiv]; exact Nat.div_le_self _ _
  omega
end Go.Me
namespace Go.Proofs.Ytmohcmghbfhdlaa
open Go Go.RowKit Go.Ab Go.Me
set_option maxRecDepth 100000
set_option maxHeartbeats 4000000
attribute [local irreducible] OQ OW AL AW AD AF SW
theorem divisor_q (a b : Int) (ha : 0 ≤ a ∧ a ≤ 9000000000000000000) (hb : 0 ≤ b ∧ b ≤ 9000000000000000000) (m : Mem) : PCalls Try.prog 47 [.int .i64 a, .int .i64 b] m (.int .i64 (Int.gcd a b)) := by
  refine PCalls.any ?_ rfl rfl m
  refine PCalls.enter (t := [.int .i64 a, .int .i64 b, undef, undef, undef, undef, undef, undef, undef, undef, undef, undef]) Try.func47 rfl (ro_nil) rfl fun E => ?_
  repeat' (first
    | with_reducible refine Then.n ?_
    | with_reducible refine Then.r ?_
    | with_reducible refine Then.x ?_
    | with_reducible refine InB.n ?_
    | with_reducible refine InB.r ?_
    | with_reducible refine InB.hit ?_
    | with_reducible refine InB.miss (by decide) ?_
    | ((with_reducible refine AL.on ?_); first
      | ((first | ((with_reducible refine AL.k_move ?_); first | (refine AL.q rfl (OQ.move wl) ?_)) | ((with_reducible refine AL.k_assign ?_); first | (refine AL.q rfl (OQ.assign wl) ?_)) | ((with_reducible refine AL.k_binOp ?_); first | refine AL.q rfl (OQ.neq rfl rfl) ?_)); (conv => (arg 5; try tactic => exact nrm)))
      | refine AL.nil ?_)
    | ((with_reducible refine AW.on ?_); first
      | refine AW.seq ?_
      | refine AW.skip ?_
      | refine AW.exit ?_
      | refine AW.ret ?_
      | ((refine AW.block (id := 0) ?_); (refine AW.wk (Wk.forget [true, true, false, false, false, false, false, false, false, false, false, false] rfl) ?_); (conv => (arg 4; simp only [fgt, if_true, if_false, Bool.false_eq_true])); (refine AW.loop (fun n t m => ∃ x y : Int, n = y.natAbs ∧ (0 ≤ x ∧ x ≤ 9000000000000000000) ∧ (0 ≤ y ∧ y ≤ 9000000000000000000) ∧ Int.gcd x y = Int.gcd a b ∧ t = [.int .i64 x, .int .i64 y, junk, junk, junk, junk, junk, junk, junk, junk, junk, junk] ∧ m = []) (b.natAbs) (by exact ⟨a, b, rfl, ha, hb, rfl, rfl, rfl⟩) ?_); (rintro n t m ⟨x, y, rfl, hx, hy, hg, rfl, rfl⟩))
      | refine AW.block ?_
      | (refine AW.draw (id := 2) 6 #[0, 0, 0, 6, 3, 31] kr kr ?_; (conv => (arg 8; simp only [List.take_succ_cons, List.take_zero])))
      | refine AW.region ?_
      | (refine AW.conds rfl (fun hc => ?_) (fun hc => ?_) <;> (try replace hc := nc hc) <;> first | (exfalso; first | contradiction | (omega); done) | skip))
    | ((with_reducible refine AD.on ?_); first
      | ((first | ((with_reducible refine AD.k_move ?_); first | (refine AD.q rfl (OQ.move wl) rfl rfl rfl ?_)) | ((with_reducible refine AD.k_assign ?_); first | (refine AD.q rfl (OQ.assign wl) rfl rfl rfl ?_)) | ((with_reducible refine AD.k_binOp ?_); first | refine AD.q rfl (OQ.rem rfl rfl (by omega)) rfl rfl rfl ?_)); (conv => (arg 10; try tactic => exact nrm)))
      | (refine AD.nil ?_; (conv => (arg 4; simp only [List.drop_succ_cons, List.drop_zero, List.drop_nil])); (conv => (arg 5; try tactic => exact nrm)); (conv => (arg 6; try tactic => exact nrm))))
    | ((with_reducible refine ex_on ?_); exact ⟨_, _, _, natAbs_tmod_lt ‹¬ y = 0›, Wk.forget [true, true, false, false, false, false, false, false, false, false, false, false] rfl, y, x.tmod y, rfl, hy, gtmod_bd hx, (gcd_step x y).trans hg, rfl, rfl⟩)
    | ((with_reducible refine FinP.on ?_); (first | refine FinP.ret (.tmp wl .nil) ?_ rfl | refine FinP.end (.tmp wl .nil) ?_ rfl); (try simp only [pack, List.drop, List.take]); all_goals (congr 1; rw [← hg, ‹y = 0›]; simp; try omega)))
theorem rgB_true {n lo hi : Int} : rgB n lo hi = true ↔ lo ≤ n ∧ n ≤ hi := by
  unfold rgB
  exact decide_eq_true_iff
theorem ds_bds {l : List Int} {k : Nat} (hk : k ≤ 60) (h : ∀ j, j < k → rgB (nt l j) 0 3000 = true) :
    (0 ≤ dsS l k ∧ dsS l k ≤ 180000) ∧ (0 ≤ dsQ l k ∧ dsQ l k ≤ 540000000) ∧ (0 ≤ k * dsQ l k ∧ k * dsQ l k ≤ 32400000000) ∧ (0 ≤ dsS l k * dsS l k ∧ dsS l k * dsS l k ≤ 32400000000) ∧ 0 ≤ k * dsQ l k - dsS l k * dsS l k := by
  obtain ⟨h1, h2⟩ := ds_bd (l := l) k (fun j hj => rgB_true.1 (h j hj))
  have h3 := sq_nn (dsS l k)
  have h4 := mul_bd (m := dsS l k) (n := dsS l k) (a := 180000) (b := 180000) (by omega) (by omega) (by decide)
  have h5 := mul_bd (m := (k : Int)) (n := dsQ l k) (a := 60) (b := 540000000) (by omega) (by omega) (by decide)
  have h6 := ds_nn l k
  omega
def dsV (l : List Int) : Value := .tuple #[.agg #[.int .i64 (dsA l), .int .i64 (dsB l)], .int .i64 (dsE l)]
theorem dsV_e {l : List Int} {e : Int} (h : dsE l = e) (h0 : e ≠ 0) : dsV l = .tuple #[.agg #[.int .i64 0, .int .i64 0], .int .i64 e] := by
  unfold dsV dsA dsB
  rw [h, if_neg h0, if_neg h0]
theorem dsOk_true {l : List Int} (h : ∀ j, j < l.length → rgB (nt l j) 0 3000 = true) : dsOk l = true := by
  unfold dsOk
  exact decide_eq_true fun k hk => rgB_true.1 (h k hk)
theorem Dispersion_0 (l : List Int) (c z : Nat) (hl : l.length ≤ 1000000) : PCalls Try.prog 27 [.slice (some ⟨0, 0, none⟩) l.length c] [some ⟨flatN l, false, z⟩] (dsV l) := by
  have hld := fun (k : Nat) (hk : k < l.length) => flatN_get l k hk
  have hw := fun (n : Int) (m : Mem) => within_q n 0 3000 m
  have hlo : l.length < 2 → dsV l = .tuple #[.agg #[.int .i64 0, .int .i64 0], .int .i64 10] := fun h => dsV_e (by unfold dsE; rw [if_pos h]) (by decide)
  have hhi : 60 < l.length → dsV l = .tuple #[.agg #[.int .i64 0, .int .i64 0], .int .i64 8] := fun h => dsV_e (by unfold dsE; rw [if_neg (by omega), if_pos h]) (by decide)
  have hrg : ∀ k, ¬ l.length < 2 → ¬ 60 < l.length → k < l.length → rgB (nt l k) 0 3000 = false → dsV l = .tuple #[.agg #[.int .i64 0, .int .i64 0], .int .i64 2] := fun k h1 h2 hk h => dsV_e (by
    unfold dsE
    rw [if_neg h1, if_neg h2, if_neg]
    intro ho
    have h3 := of_decide_eq_true ho k hk
    rw [rgB_true.2 h3] at h
    cases h) (by decide)
  have hze : ¬ l.length < 2 → ¬ 60 < l.length → (∀ j, j < l.length → rgB (nt l j) 0 3000 = true) → dsS l l.length = 0 → dsV l = .tuple #[.agg #[.int .i64 0, .int .i64 0], .int .i64 11] := fun h1 h2 h3 h4 => dsV_e (by unfold dsE; rw [if_neg h1, if_neg h2, if_pos (dsOk_true h3), if_pos h4]) (by decide)
  have hok : ¬ l.length < 2 → ¬ 60 < l.length → (∀ j, j < l.length → rgB (nt l j) 0 3000 = true) → dsS l l.length ≠ 0 → dsV l = .tuple #[.agg #[.int .i64 ((l.length * dsQ l l.length - dsS l l.length * dsS l l.length).tdiv (Int.gcd (l.length * dsQ l l.length - dsS l l.length * dsS l l.length) (dsS l l.length * dsS l l.length))), .int .i64 ((dsS l l.length * dsS l l.length).tdiv (Int.gcd (l.length * dsQ l l.length - dsS l l.length * dsS l l.length) (dsS l l.length * dsS l l.length)))], .int .i64 0] := fun h1 h2 h3 h4 => by
    have he : dsE l = 0 := by unfold dsE; rw [if_neg h1, if_neg h2, if_pos (dsOk_true h3), if_neg h4]
    unfold dsV dsA dsB
    rw [he, if_pos rfl, if_pos rfl]
    rfl
  have hbd := fun (k : Nat) => ds_bds (l := l) (k := k)
  have hv := fun (k : Nat) (h : rgB (nt l k) 0 3000 = true) => rgB_true.1 h
  have s0 : dsS l 0 = 0 := rfl
  have q0 : dsQ l 0 = 0 := rfl
  have ss : ∀ k, dsS l (k + 1) = dsS l k + nt l k := fun k => rfl
  have qs : ∀ k, dsQ l (k + 1) = dsQ l k + nt l k * nt l k := fun k => rfl
  have hsq : ∀ a : Int, 0 ≤ a ∧ a ≤ 3000 → 0 ≤ a * a ∧ a * a ≤ 9000000 := fun a ha => ⟨sq_nn a, (mul_bd (m := a) (n := a) (a := 3000) (b := 3000) (by omega) (by omega) (by decide)).2⟩
  have hnz : dsS l l.length ≠ 0 → dsS l l.length * dsS l l.length ≠ 0 := fun h h2 => by rcases Int.mul_eq_zero.1 h2 with h3 | h3 <;> exact h h3
  have hold : oldv3 [some ⟨flatN l, false, z⟩] (dsV l) = true := rfl
  generalize dsS l = S at *
  generalize dsQ l = Q at *
  generalize dsV l = V at *
  refine PCalls.enter (t := [.slice (some ⟨0, 0, none⟩) l.length c, undef, undef, undef, undef, undef, undef, undef, undef, undef, undef, undef, undef, undef, undef, undef, undef, undef, undef, undef, undef, undef, undef, undef, undef, undef, undef, undef, undef, undef, undef, undef, undef, undef, undef, undef, undef, undef, undef, undef, undef, undef, undef, undef, undef, undef, undef, undef, undef, undef, undef, undef, undef, undef, undef, undef, undef, undef, undef, undef, undef, undef, undef, undef]) Try.func27 rfl (ro1p _ rfl) rfl fun E => ?_
  repeat' (first
    | with_reducible refine Then.n ?_
    | with_reducible refine Then.r ?_
    | with_reducible refine Then.x ?_
    | with_reducible refine InB.n ?_
    | with_reducible refine InB.r ?_
    | with_reducible refine InB.hit ?_
    | with_reducible refine InB.miss (by decide) ?_
    | ((with_reducible refine AL.on ?_); first
      | ((first | ((with_reducible refine AL.k_move ?_); first | (refine AL.q rfl (OQ.move wl) ?_)) | ((with_reducible refine AL.k_assign ?_); first | (refine AL.q rfl (OQ.assign wl) ?_)) | ((with_reducible refine AL.k_binOp ?_); first | refine AL.q rfl (OQ.lss rfl rfl) ?_ | refine AL.q rfl (OQ.gtr rfl rfl) ?_ | refine AL.q rfl (OQ.addi rfl rfl (by omega)) ?_ | refine AL.q rfl (OQ.add rfl rfl) ?_ | refine AL.q rfl (OQ.muli rfl rfl (by omega)) ?_ | refine AL.q rfl (OQ.mul rfl rfl) ?_ | refine AL.q rfl (OQ.eql rfl rfl) ?_ | refine AL.q rfl (OQ.subi rfl rfl (by omega)) ?_ | refine AL.q rfl (OQ.sub rfl rfl) ?_) | ((with_reducible refine AL.k_call ?_); first | refine AL.q rfl (OQ.lenS (xt := 29) (r := (none, 1, false)) rfl kr) ?_) | ((with_reducible refine AL.k_load ?_); first | (refine AL.q rfl (OQ.load1 (ty := 3) rfl kr (by first | (exact hld _ (by omega)) | (conv => lhs; whnf))) ?_)) | ((with_reducible refine AL.k_unOp ?_); first | refine AL.q rfl (OQ.not rfl) ?_)); (conv => (arg 5; try tactic => exact nrm)))
      | ((first | ((with_reducible refine AL.k_build ?_); first | refine AL.q rfl (OQ.buildA (ty := 45) (zs := [.int .i64 0, .int .i64 0]) (n := 1) (k := 2) (g := false) kr rfl kr rfl rfl rfl) ?_) | ((with_reducible refine AL.k_call ?_); first | refine AL.pcall (g := 46) rfl kr rfl (hw _ _) ?_ | refine AL.pcall (g := 47) rfl kr rfl (divisor_q _ _ (by omega) (by omega) _) ?_) | ((with_reducible refine AL.k_indexAddr ?_); first | refine AL.q rfl (OQ.idxAddr (ty := 29) (z := 1) (g := false) rfl rfl kr (by omega) (by omega)) ?_)); (conv => (arg 5; try tactic => exact nrm)))
      | ((first | ((with_reducible refine AL.k_store ?_); first | (refine AL.w rfl (OW.store (ty := 45) (n := 2) rfl wl rfl rfl kr rfl rfl (by decide) rfl (Nat.le_of_ble_eq_true rfl) (by intro r h; cases h)) ?_)) | ((with_reducible refine AL.k_alloc ?_); first | refine AL.w rfl (OW.alloc (ty := 45) (z := [.int .i64 0, .int .i64 0]) kr rfl) ?_)); (conv => (arg 5; try tactic => exact nrm)); (conv => (arg 6; try tactic => exact nrm)))
      | refine AL.nil ?_)
    | ((with_reducible refine AW.on ?_); first
      | refine AW.seq ?_
      | refine AW.skip ?_
      | refine AW.exit ?_
      | refine AW.ret ?_
      | ((refine AW.block (id := 1) ?_); (refine AW.wk (Wk.forget [false, false, true, false, true, true, true, false, false, false, false, false, false, false, false, false, false, false, false, false, false, false, true, true, true, false, false, false, false, false, false, false, false, false, false, false, false, false, false, false, false, false, false, false, false, false, false, false, false, false, false, false, false, false, false, false, false, false, false, false, false, false, false, false] rfl) ?_); (conv => (arg 4; simp only [fgt, if_true, if_false, Bool.false_eq_true])); (refine AW.loop (fun n t' m => ∃ k : Nat, n = l.length - k ∧ k ≤ l.length ∧ (∀ j, j < k → rgB (nt l j) 0 3000 = true) ∧ t' = [junk, junk, .pointer (some ⟨1, 0, none⟩), junk, .int .i64 (l.length), .int .i64 (S k), .int .i64 (Q k), junk, junk, junk, junk, junk, junk, junk, junk, junk, junk, junk, junk, junk, junk, junk, .slice (some ⟨0, 0, none⟩) l.length c, .int .i64 (l.length), .int .i64 (k), junk, junk, junk, junk, junk, junk, junk, junk, junk, junk, junk, junk, junk, junk, junk, junk, junk, junk, junk, junk, junk, junk, junk, junk, junk, junk, junk, junk, junk, junk, junk, junk, junk, junk, junk, junk, junk, junk, junk] ∧ m = [some ⟨flatN l, false, z⟩, some ⟨[.int .i64 (0), .int .i64 (0)], true, 0⟩]) (l.length) (by exact ⟨0, rfl, Nat.zero_le _, fun j h => absurd h (by omega), by rw [s0, q0]; rfl, rfl⟩) ?_); (rintro n t' m ⟨k, rfl, hk, hj, rfl, rfl⟩))
      | refine AW.block ?_
      | (refine AW.draw (id := 18) 7 #[0, 0, 3, 0, 0, 24, 63, 127, 255] kr kr ?_; (conv => (arg 8; simp only [List.take_succ_cons, List.take_zero])); ((have hg1 : 0 < (Int.gcd (l.length * Q l.length - S l.length * S l.length) (S l.length * S l.length) : Int) := (by have := Int.gcd_pos_of_ne_zero_right (l.length * Q l.length - S l.length * S l.length) (hnz ‹_›); omega); have hg2 := gtdiv_bd (a := l.length * Q l.length - S l.length * S l.length) (b := (Int.gcd (l.length * Q l.length - S l.length * S l.length) (S l.length * S l.length) : Int)) (M := 32400000000) (by omega); have hg3 := gtdiv_bd (a := S l.length * S l.length) (b := (Int.gcd (l.length * Q l.length - S l.length * S l.length) (S l.length * S l.length) : Int)) (M := 32400000000) (by omega))))
      | (refine AW.region (id := 12) ?_; ((have hb := hbd k (by omega) hj; have hv1 := hv k (by first | assumption | simp_all); have hv2 := hsq _ hv1)))
      | (refine AW.region (id := 14) ?_; ((obtain rfl : k = l.length := (by omega); have hb := hbd _ (by omega) hj)))
      | refine AW.region ?_
      | (refine AW.conds rfl (fun hc => ?_) (fun hc => ?_) <;> (try replace hc := nc hc) <;> first | (exfalso; first | contradiction | (first | omega | (simp at hc; done)); done) | skip))
    | ((with_reducible refine AD.on ?_); first
      | ((first | ((with_reducible refine AD.k_move ?_); first | (refine AD.q rfl (OQ.move wl) rfl rfl rfl ?_)) | ((with_reducible refine AD.k_binOp ?_); first | refine AD.q rfl (OQ.quoi rfl rfl (by omega) (by omega)) rfl rfl rfl ?_ | refine AD.q rfl (OQ.quo rfl rfl (by omega)) rfl rfl rfl ?_)); (conv => (arg 10; try tactic => exact nrm)))
      | ((first | first | refine AD.q rfl (OQ.buildA (ty := 45) (zs := [.int .i64 0, .int .i64 0]) (n := 1) (k := 2) (g := false) kr rfl kr rfl rfl rfl) rfl rfl rfl ?_); (conv => (arg 10; try tactic => exact nrm)))
      | (refine AD.nil ?_; (conv => (arg 4; simp only [List.drop_succ_cons, List.drop_zero, List.drop_nil])); (conv => (arg 5; try tactic => exact nrm)); (conv => (arg 6; try tactic => exact nrm))))
    | ((with_reducible refine ex_on ?_); (refine ⟨l.length - (k + 1), _, _, by omega, ?_, k + 1, rfl, by omega, fun j h => (by rcases Nat.lt_or_eq_of_le (Nat.le_of_lt_succ h) with h | rfl; (exact hj j h); (first | assumption | simp_all)), rfl, rfl⟩; rw [ss k, qs k]; exact Wk.forget [false, false, true, false, true, true, true, false, false, false, false, false, false, false, false, false, false, false, false, false, false, false, true, true, true, false, false, false, false, false, false, false, false, false, false, false, false, false, false, false, false, false, false, false, false, false, false, false, false, false, false, false, false, false, false, false, false, false, false, false, false, false, false, false] rfl))
    | ((with_reducible refine FinP.on ?_); (first | refine FinP.ret (.cellN (n := 2) wl kr kr rfl (.tmp wl .nil)) ?_ hold | refine FinP.end (.cellN (n := 2) wl kr kr rfl (.tmp wl .nil)) ?_ hold); (try simp only [pack, List.drop, List.take]); all_goals (symm; first | exact hlo (by omega) | exact hhi (by omega) | exact hze (by omega) (by omega) hj ‹_› | exact hok (by omega) (by omega) hj ‹_› | exact hrg k (by omega) (by omega) (by omega) (by first | assumption | simp_all))))
theorem Dispersion_q {m : Mem} {b n c : Nat} {blk : Blk} (l : List Int) (hb : m.at b = some blk) (hc : blk.cells = flatN l) (hn : l.length = n) (hl : l.length ≤ 1000000) (ho : blk.obj = Ob.plain := by rfl) : PCalls Try.prog 27 [.slice (some ⟨b, 0, none⟩) n c] m (dsV l) := by
  subst hn
  exact PCalls.viaS [b] (Dispersion_0 l c blk.esz hl) (ro1p _ rfl) ⟨⟨_, hb, by unfold Blk.shp Blk.shpR; rw [ho]; rfl, (fun h => nomatch h), .inl ⟨hc, flatN_scal _⟩⟩, trivial⟩ rfl rfl rfl rfl
theorem dsV_9 : dsV [9, 12] = .tuple #[.agg #[.int .i64 1, .int .i64 49], .int .i64 0] := by
  have h1 : dsA [9, 12] = 1 := by decide +kernel
  have h2 : dsB [9, 12] = 49 := by decide +kernel
  have h3 : dsE [9, 12] = 0 := by decide +kernel
  unfold dsV
  rw [h1, h2, h3]
end Go.Proofs.Ytmohcmghbfhdlaa
end
end
/- Chapter 6: which points are right: both sides. -/
section
set_option linter.unusedSimpArgs false
set_option linter.unusedVariables false
section
namespace Go.Me
open Go.Ab
def idxP (l : List Pn) (p : Pn) : Nat → Int
  | 0 => -1
  | k + 1 => if idxP l p k ≠ -1 then idxP l p k else if (p.x, p.y) = ((pt l k).x, (pt l k).y) then k else -1
theorem idxP_no {l : List Pn} {p : Pn} : ∀ n : Nat, (∀ j, j < n → ¬ (p.x, p.y) = ((pt l j).x, (pt l j).y)) → idxP l p n = -1 := by
  intro n
  induction n with
  | zero => intro _; rfl
  | succ n ih =>
    intro h
    unfold idxP
    rw [if_neg (fun h2 => h2 (ih fun j hj => h j (by omega))), if_neg (h n (by omega))]
theorem idxP_yes {l : List Pn} {p : Pn} {k : Nat} (hk : ∀ j, j < k → ¬ (p.x, p.y) = ((pt l j).x, (pt l j).y)) (he : (p.x, p.y) = ((pt l k).x, (pt l k).y)) : ∀ n : Nat, k < n → idxP l p n = k := by
  intro n
  induction n with
  | zero => intro h; omega
  | succ n ih =>
    intro h
    rcases Nat.lt_or_eq_of_le (Nat.le_of_lt_succ h) with h | rfl
    · have := ih h
      unfold idxP
      rw [this, if_pos (by omega)]
    · unfold idxP
      rw [if_neg (fun h2 => h2 (idxP_no k hk)), if_pos he]
theorem idxP_bd (l : List Pn) (p : Pn) : ∀ n : Nat, -1 ≤ idxP l p n ∧ idxP l p n < n := by
  intro n
  induction n with
  | zero => unfold idxP; omega
  | succ n ih =>
    unfold idxP
    repeat' split
    all_goals omega
def ptE (l : List Pn) (i : Nat) : Int := if okP (pt l i) = false then 2 else if idxP l (pt l i) i = -1 then 0 else 5
def cpN (l : List Pn) : Nat → Int
  | 0 => -1
  | k + 1 => if cpN l k ≠ -1 then cpN l k else if ptE l k ≠ 0 then k else -1
def cpA (l : List Pn) : Int := if 40 < l.length then 0 else if cpN l l.length = -1 then 0 else cpN l l.length
def cpB (l : List Pn) : Int := if 40 < l.length then 8 else if cpN l l.length = -1 then 0 else ptE l (cpN l l.length).toNat
theorem cpN_no {l : List Pn} : ∀ n : Nat, (∀ j, j < n → ptE l j = 0) → cpN l n = -1 := by
  intro n
  induction n with
  | zero => intro _; rfl
  | succ n ih =>
    intro h
    unfold cpN
    rw [if_neg (fun h2 => h2 (ih fun j hj => h j (by omega))), if_neg (fun h2 => h2 (h n (by omega)))]
theorem cpN_yes {l : List Pn} {k : Nat} (hk : ∀ j, j < k → ptE l j = 0) (he : ptE l k ≠ 0) : ∀ n : Nat, k < n → cpN l n = k := by
  intro n
  induction n with
  | zero => intro h; omega
  | succ n ih =>
    intro h
    rcases Nat.lt_or_eq_of_le (Nat.le_of_lt_succ h) with h | rfl
    · have := ih h
      unfold cpN
      rw [this, if_pos (by omega)]
    · unfold cpN
      rw [if_neg (fun h2 => h2 (cpN_no k hk)), if_pos he]
end Go.Me
namespace Go.Ab
section
variable {P : Program} {t : T} {m : Mem} {dst : Option Tmp} {rt ty ty' : TypeId} {pos : String} {after : Array Edge} {guard : Option (Nat × Bool)} {x y : Operand}
theorem OQ.sliceTo {lo hi : Option Operand} {b n c z k : Nat} {g : Bool} {blk : Blk} (hx : t.ev x = .slice (some ⟨b, 0, none⟩) n c) (hf : elemOf' P ty = some (none, z, g)) (hb : m.at b = some blk) (hz : blk.esz = 0 ∨ blk.esz = z)
    (hl : bnd t lo 0 = some 0) (hh : bnd t hi n = some (k : Int)) (h2 : k ≤ n) : OQ P ⟨dst, .slice ty x lo hi none, rt, pos, after, guard⟩ t m (.slice (some ⟨b, 0, none⟩) k c) := by
  have := OQ.sliceS (dst := dst) (rt := rt) (pos := pos) (after := after) (guard := guard) hx hf hb hz hl hh (by decide) (by omega) (by omega)
  simpa using this
end
end Go.Ab
namespace Go.Proofs.Ytmohcmghbfhdlaa
open Go Go.RowKit Go.Ab Go.Me
set_option maxRecDepth 100000
set_option maxHeartbeats 4000000
theorem eqr_t47 (d : Nat) (w : World) (a0 a1 b0 b1 : Int) : (Op.equalIn (d + 2) 47 (.agg #[.int .i64 a0, .int .i64 a1]) (.agg #[.int .i64 b0, .int .i64 b1])).run Try.prog w = .ok (decide ((a0, a1) = (b0, b1))) w := by
  unfold Op.equalIn
  simp [Try.underlying47, run_underlying, go_sem, List.forIn_cons]
  by_cases h0 : a0 = b0
  case neg => simp [h0]
  by_cases h1 : a1 = b1
  case neg => simp [h0, h1]
  simp [h0, h1]
theorem eql_t47 {t : T} {m : Mem} {dst : Option Tmp} {rt ty' : TypeId} {pos : String} {after : Array Edge} {guard : Option (Nat × Bool)} {x y : Operand} {a0 a1 b0 b1 : Int} (hx : t.ev x = (.agg #[.int .i64 a0, .int .i64 a1])) (hy : t.ev y = (.agg #[.int .i64 b0, .int .i64 b1])) :
    OQ Try.prog ⟨dst, .binOp .eql 47 x y ty', rt, pos, after, guard⟩ t m (.bool (decide ((a0, a1) = (b0, b1)))) := by
  refine OQ.closed (fun cs b => by simp) (fun z hz => ?_) (fun w => ?_) rfl
  · simp [Op.operands] at hz
    rcases hz with rfl | rfl
    · rw [hx]; rfl
    · rw [hy]; rfl
  · have e := eqr_t47 9998 w a0 a1 b0 b1
    have hgt : (Try.prog).eqGuardType (Try.prog).depth 47 = false := by kernel_rfl
    have hg : (eqGuard .eql 47 x y (t.ev x) (t.ev y)).run Try.prog w = .ok () w := by
      rw [hx, hy]
      simp [eqGuard, program, Sem.run, Sem.run_bind, hgt]
    rw [hx, hy] at hg
    simp only [execOp, hx, hy, Sem.run_bind, hg, Result.andThen_ok, binOp, Op.equal, Op.maxDepth]
    erw [e]
    simp [go_sem]
attribute [local irreducible] OQ OW AL AW AD AF SW
theorem Index_0 (l : List Pn) (p : Pn) (n c z : Nat) (hn : n ≤ l.length) (hl : l.length ≤ 1000000) : PCalls Try.prog 51 [.slice (some ⟨0, 0, none⟩) n c, ptV p] [some ⟨flatP l, false, z⟩] (.int .i64 (idxP l p n)) := by
  have hld := fun (k : Nat) (hk : k < l.length) (r : Mem) => flatP_ld (m := some ⟨flatP l, false, z⟩ :: r) (b := 0) (l := l) rfl rfl k hk
  have hno := idxP_no (l := l) (p := p) n
  have hyes := fun (k : Nat) (h1 : k < n) (hj : ∀ j, j < k → ¬ (p.x, p.y) = ((pt l j).x, (pt l j).y)) (he : (p.x, p.y) = ((pt l k).x, (pt l k).y)) => idxP_yes hj he n h1
  generalize idxP l p n = E0 at *
  refine PCalls.enter (t := [.slice (some ⟨0, 0, none⟩) n c, ptV p, undef, undef, undef, undef, undef, undef, undef, undef, undef, undef, undef, undef, undef, undef, undef, undef, undef]) Try.func51 rfl (ro1p _ rfl) rfl fun E => ?_
  repeat' (first
    | with_reducible refine Then.n ?_
    | with_reducible refine Then.r ?_
    | with_reducible refine Then.x ?_
    | with_reducible refine InB.n ?_
    | with_reducible refine InB.r ?_
    | with_reducible refine InB.hit ?_
    | with_reducible refine InB.miss (by decide) ?_
    | ((with_reducible refine AL.on ?_); first
      | ((first | ((with_reducible refine AL.k_move ?_); first | (refine AL.q rfl (OQ.move wl) ?_)) | ((with_reducible refine AL.k_assign ?_); first | (refine AL.q rfl (OQ.assign wl) ?_)) | ((with_reducible refine AL.k_binOp ?_); first | refine AL.q rfl (OQ.lss rfl rfl) ?_ | refine AL.q rfl (OQ.addi rfl rfl (by omega)) ?_ | refine AL.q rfl (OQ.add rfl rfl) ?_) | ((with_reducible refine AL.k_call ?_); first | refine AL.q rfl (OQ.lenS (xt := 22) (r := (none, 2, true)) rfl kr) ?_)); (conv => (arg 5; try tactic => exact nrm)))
      | ((first | first | (refine AL.w rfl (OW.box wl (by intro r h; cases h)) ?_)); (conv => (arg 5; try tactic => exact nrm)); (conv => (arg 6; try tactic => exact nrm)))
      | refine AL.nil ?_)
    | ((with_reducible refine AW.on ?_); first
      | refine AW.seq ?_
      | refine AW.skip ?_
      | refine AW.exit ?_
      | refine AW.ret ?_
      | ((refine AW.block (id := 0) ?_); (refine AW.wk (Wk.forget [true, false, false, true, false, false, false, true, true, false, false, false, false, false, false, false, false, false, false] rfl) ?_); (conv => (arg 4; simp only [fgt, if_true, if_false, Bool.false_eq_true])); (refine AW.loop (fun n' t' m => ∃ k : Nat, n' = n - k ∧ k ≤ n ∧ (∀ j, j < k → ¬ (p.x, p.y) = ((pt l j).x, (pt l j).y)) ∧ t' = [.slice (some ⟨0, 0, none⟩) n c, junk, junk, .pointer (some ⟨1, 0, none⟩), junk, junk, junk, .int .i64 (n), .int .i64 (k), junk, junk, junk, junk, junk, junk, junk, junk, junk, junk] ∧ m = [some ⟨flatP l, false, z⟩, some ⟨[.int .i64 (p.x), .int .i64 (p.y)], true, 0⟩]) (n) (by exact ⟨0, rfl, Nat.zero_le _, fun j h => absurd h (by omega), rfl, rfl⟩) ?_); (rintro n' t' m ⟨k, rfl, hk, hj, rfl, rfl⟩))
      | refine AW.block ?_
      | (refine AW.draw (id := 4) 6 #[0, 0, 0, 6, 14, 31] kr kr ?_; (conv => (arg 8; simp only [List.take_succ_cons, List.take_zero])))
      | refine AW.region ?_
      | (refine AW.conds rfl (fun hc => ?_) (fun hc => ?_) <;> (try replace hc := nc hc) <;> first | (exfalso; first | contradiction | (first | omega | (simp at hc; done)); done) | skip))
    | ((with_reducible refine AD.on ?_); first
      | ((first | ((with_reducible refine AD.k_move ?_); first | (refine AD.q rfl (OQ.move wl) rfl rfl rfl ?_)) | ((with_reducible refine AD.k_binOp ?_); first | refine AD.q rfl (eql_t47 rfl rfl) rfl rfl rfl ?_) | ((with_reducible refine AD.k_load ?_); first | refine AD.q rfl (OQ.loadN (ty := 47) (n := 2) rfl kr kr (by first | (exact hld _ (by omega) _) | rfl)) rfl rfl rfl ?_)); (conv => (arg 10; try tactic => exact nrm)))
      | ((first | first | refine AD.q rfl (OQ.idxAddr (ty := 22) (z := 2) (g := true) rfl rfl kr (by omega) (by omega)) rfl rfl rfl ?_); (conv => (arg 10; try tactic => exact nrm)))
      | (refine AD.nil ?_; (conv => (arg 4; simp only [List.drop_succ_cons, List.drop_zero, List.drop_nil])); (conv => (arg 5; try tactic => exact nrm)); (conv => (arg 6; try tactic => exact nrm))))
    | ((with_reducible refine ex_on ?_); (refine ⟨n - (k + 1), _, _, by omega, ?_, k + 1, rfl, by omega, fun j h => (by rcases Nat.lt_or_eq_of_le (Nat.le_of_lt_succ h) with h | rfl; (exact hj j h); (first | assumption | simp_all)), rfl, rfl⟩; exact Wk.forget [true, false, false, true, false, false, false, true, true, false, false, false, false, false, false, false, false, false, false] rfl))
    | ((with_reducible refine FinP.on ?_); (first | refine FinP.ret (.tmp wl .nil) ?_ rfl | refine FinP.end (.tmp wl .nil) ?_ rfl); (try simp only [pack, List.drop, List.take]); all_goals (symm; first | (rw [hyes k (by omega) hj (by first | assumption | simp_all)]; done) | (obtain rfl : k = n := (by omega); rw [hno hj]))))
theorem Index_q {m : Mem} {b n c : Nat} {blk : Blk} (l : List Pn) (p : Pn) (hb : m.at b = some blk) (hc : blk.cells = flatP l) (hn : n ≤ l.length) (hl : l.length ≤ 1000000) (ho : blk.obj = Ob.plain := by rfl) : PCalls Try.prog 51 [.slice (some ⟨b, 0, none⟩) n c, ptV p] m (.int .i64 (idxP l p n)) := by
  exact PCalls.viaS [b] (Index_0 l p n c blk.esz hn hl) (ro1p _ rfl) ⟨⟨_, hb, by unfold Blk.shp Blk.shpR; rw [ho]; rfl, (fun h => nomatch h), .inl ⟨hc, flatP_scal _⟩⟩, trivial⟩ rfl rfl rfl rfl
theorem Contains_0 (l : List Pn) (p : Pn) (n c z : Nat) (hn : n ≤ l.length) (hl : l.length ≤ 1000000) : PCalls Try.prog 30 [.slice (some ⟨0, 0, none⟩) n c, ptV p] [some ⟨flatP l, false, z⟩] (.bool (decide (0 ≤ idxP l p n))) := by
  have hi := fun (m : Mem) (b : Nat) (blk : Blk) (h1 : m.at b = some blk) (h2 : blk.cells = flatP l) (h3 : blk.obj = Ob.plain) => Index_q (n := n) (c := c) l p h1 h2 hn hl h3
  generalize idxP l p n = E0 at *
  refine PCalls.enter (t := [.slice (some ⟨0, 0, none⟩) n c, ptV p, undef, undef, undef, undef, undef, undef, undef]) Try.func30 rfl (ro1p _ rfl) rfl fun E => ?_
  repeat' (first
    | with_reducible refine Then.n ?_
    | with_reducible refine Then.r ?_
    | with_reducible refine Then.x ?_
    | with_reducible refine InB.n ?_
    | with_reducible refine InB.r ?_
    | with_reducible refine InB.hit ?_
    | with_reducible refine InB.miss (by decide) ?_
    | ((with_reducible refine AL.on ?_); first
      | ((first | ((with_reducible refine AL.k_assign ?_); first | (refine AL.q rfl (OQ.assign wl) ?_)) | ((with_reducible refine AL.k_move ?_); first | (refine AL.q rfl (OQ.move wl) ?_)) | ((with_reducible refine AL.k_load ?_); first | refine AL.q rfl (OQ.loadN (ty := 47) (n := 2) rfl kr kr rfl) ?_) | ((with_reducible refine AL.k_binOp ?_); first | refine AL.q rfl (OQ.geq rfl rfl) ?_)); (conv => (arg 5; try tactic => exact nrm)))
      | ((first | first | refine AL.pcall (g := 51) rfl kr rfl ((by exact hi _ 0 _ rfl rfl rfl)) ?_); (conv => (arg 5; try tactic => exact nrm)))
      | ((first | first | (refine AL.w rfl (OW.box wl (by intro r h; cases h)) ?_)); (conv => (arg 5; try tactic => exact nrm)); (conv => (arg 6; try tactic => exact nrm)))
      | refine AL.nil ?_)
    | ((with_reducible refine AW.on ?_); first
      | refine AW.seq ?_
      | refine AW.skip ?_
      | refine AW.exit ?_
      | refine AW.ret ?_
      | refine AW.block ?_
      | refine AW.region ?_
      | (refine AW.conds rfl (fun hc => ?_) (fun hc => ?_) <;> (try replace hc := nc hc) <;> first | (exfalso; first | contradiction | (first | omega | (simp at hc; done)); done) | skip))
    | ((with_reducible refine FinP.on ?_); (first | refine FinP.ret (.tmp wl .nil) ?_ rfl | refine FinP.end (.tmp wl .nil) ?_ rfl); (try simp only [pack, List.drop, List.take]); all_goals (rfl)))
theorem Contains_q {m : Mem} {b n c : Nat} {blk : Blk} (l : List Pn) (p : Pn) (hb : m.at b = some blk) (hc : blk.cells = flatP l) (hn : n ≤ l.length) (hl : l.length ≤ 1000000) (ho : blk.obj = Ob.plain := by rfl) : PCalls Try.prog 30 [.slice (some ⟨b, 0, none⟩) n c, ptV p] m (.bool (decide (0 ≤ idxP l p n))) := by
  exact PCalls.viaS [b] (Contains_0 l p n c blk.esz hn hl) (ro1p _ rfl) ⟨⟨_, hb, by unfold Blk.shp Blk.shpR; rw [ho]; rfl, (fun h => nomatch h), .inl ⟨hc, flatP_scal _⟩⟩, trivial⟩ rfl rfl rfl rfl
theorem CheckPoints_0 (l : List Pn) (c z : Nat) (hl : l.length ≤ 1000000) (hz : z = 0 ∨ z = 2) : PCalls Try.prog 8 [.slice (some ⟨0, 0, none⟩) l.length c] [some ⟨flatP l, false, z⟩] (.tuple #[.int .i64 (cpA l), .int .i64 (cpB l)]) := by
  have hld := fun (k : Nat) (hk : k < l.length) (r : Mem) => flatP_ld (m := some ⟨flatP l, false, z⟩ :: r) (b := 0) (l := l) rfl rfl k hk
  have hp := fun (m : Mem) (k b : Nat) (blk : Blk) (h1 : m.at b = some blk) (h2 : blk.cells = flatP [pt l k]) (h3 : blk.obj = Ob.plain) => placeErr_q (n := 1) (c := 1) [pt l k] h1 h2 rfl (by simp) h3
  have hq := fun (m : Mem) (k b : Nat) (blk : Blk) (h1 : m.at b = some blk) (h2 : blk.cells = flatP l) (hk : k ≤ l.length) (h3 : blk.obj = Ob.plain) => Contains_q (n := k) (c := c) l (pt l k) h1 h2 hk hl h3
  have hpl : ∀ k, plE [pt l k] = 0 ∧ okP (pt l k) = true ∨ plE [pt l k] = 2 ∧ okP (pt l k) = false := fun k => by
    rw [plE_cons, plE_nil]
    cases okP (pt l k) <;> simp
  have hbd := fun k => idxP_bd l (pt l k) k
  have e2 : ∀ k, plE [pt l k] ≠ 0 → ptE l k = 2 := fun k h => by
    rcases hpl k with h2 | h2
    · exact absurd h2.1 h
    · unfold ptE; rw [if_pos h2.2]
  have e5 : ∀ k, plE [pt l k] = 0 → 0 ≤ idxP l (pt l k) k → ptE l k = 5 := fun k h h3 => by
    rcases hpl k with h2 | h2
    · unfold ptE; rw [if_neg (by rw [h2.2]; decide), if_neg (by omega)]
    · omega
  have e0 : ∀ k, plE [pt l k] = 0 → ¬ 0 ≤ idxP l (pt l k) k → ptE l k = 0 := fun k h h3 => by
    have := hbd k
    rcases hpl k with h2 | h2
    · unfold ptE; rw [if_neg (by rw [h2.2]; decide), if_pos (by omega)]
    · omega
  have h8 : 40 < l.length → cpA l = 0 ∧ cpB l = 8 := fun h => by unfold cpA cpB; rw [if_pos h, if_pos h]; exact ⟨rfl, rfl⟩
  have hy : ¬ 40 < l.length → ∀ k, k < l.length → (∀ j, j < k → ptE l j = 0) → ∀ e, ptE l k = e → e ≠ 0 → cpA l = k ∧ cpB l = e := fun h k hk hj e he h0 => by
    subst he
    unfold cpA cpB
    rw [if_neg h, if_neg h, cpN_yes hj h0 _ hk, if_neg (by omega), if_neg (by omega)]
    exact ⟨rfl, rfl⟩
  have h0 : ¬ 40 < l.length → (∀ j, j < l.length → ptE l j = 0) → cpA l = 0 ∧ cpB l = 0 := fun h hj => by
    unfold cpA cpB
    rw [if_neg h, if_neg h, cpN_no _ hj, if_pos rfl, if_pos rfl]
    exact ⟨rfl, rfl⟩
  generalize cpA l = A0 at *
  generalize cpB l = B0 at *
  generalize ptE l = F at *
  refine PCalls.enterJ (t := [.slice (some ⟨0, 0, none⟩) l.length c, undef, undef, undef, undef, undef, undef, undef, undef, undef, undef, undef, undef, undef, undef, undef, undef, undef, undef, undef, undef, undef, undef, undef, undef, undef, undef, undef, undef, undef]) Try.func8 rfl (ro1p _ rfl) rfl fun E hE => ?_
  repeat' (first
    | with_reducible refine Then.n ?_
    | with_reducible refine Then.r ?_
    | with_reducible refine Then.x ?_
    | with_reducible refine InB.n ?_
    | with_reducible refine InB.r ?_
    | with_reducible refine InB.hit ?_
    | with_reducible refine InB.miss (by decide) ?_
    | ((with_reducible refine AL.on ?_); first
      | ((first | ((with_reducible refine AL.k_assign ?_); first | (refine AL.q rfl (OQ.assign wl) ?_)) | ((with_reducible refine AL.k_move ?_); first | (refine AL.q rfl (OQ.move wl) ?_)) | ((with_reducible refine AL.k_call ?_); first | refine AL.q rfl (OQ.lenS (xt := 22) (r := (none, 2, true)) rfl kr) ?_) | ((with_reducible refine AL.k_binOp ?_); first | refine AL.q rfl (OQ.gtr rfl rfl) ?_ | refine AL.q rfl (OQ.lss rfl rfl) ?_ | refine AL.q rfl (OQ.neq rfl rfl) ?_ | refine AL.q rfl (OQ.addi rfl rfl (by omega)) ?_ | refine AL.q rfl (OQ.add rfl rfl) ?_) | ((with_reducible refine AL.k_load ?_); first | refine AL.q rfl (OQ.loadN (ty := 47) (n := 2) rfl kr kr (by first | (exact hld _ (by omega) _) | rfl)) ?_)); (conv => (arg 5; try tactic => exact nrm)))
      | ((first | ((with_reducible refine AL.k_call ?_); first | refine AL.pcall (g := 29) rfl kr rfl ((by exact hp _ k _ _ rfl rfl rfl)) ?_) | ((with_reducible refine AL.k_indexAddr ?_); first | refine AL.q rfl (OQ.idxAddr (ty := 22) (z := 2) (g := true) rfl rfl kr (by omega) (by omega)) ?_)); (conv => (arg 5; try tactic => exact nrm)))
      | ((first | ((with_reducible refine AL.k_alloc ?_); first | refine AL.w rfl (OW.alloc (ty := 47) (z := [.int .i64 0, .int .i64 0]) kr rfl) ?_) | ((with_reducible refine AL.k_store ?_); first | (refine AL.w rfl (OW.store (ty := 47) (n := 2) rfl wl rfl rfl kr rfl rfl (by decide) rfl (Nat.le_of_ble_eq_true rfl) (by intro r h; cases h)) ?_)) | ((with_reducible refine AL.k_buildSlice ?_); first | refine AL.w rfl (OW.buildSl (ty := 22) (zs := [.int .i64 0, .int .i64 0]) (n := 2) (g := true) kr kr rfl rfl rfl (by decide) (by decide) rfl rfl) ?_)); (conv => (arg 5; try tactic => exact nrm)); (conv => (arg 6; try tactic => exact nrm)))
      | refine AL.nil ?_)
    | ((with_reducible refine AW.on ?_); first
      | refine AW.seq ?_
      | refine AW.skip ?_
      | refine AW.exit ?_
      | refine AW.ret ?_
      | ((refine AW.block (id := 0) ?_); (refine AW.wk (Wk.forget [true, false, false, false, false, false, false, false, false, true, true, true, false, false, false, false, false, false, false, false, false, false, false, false, false, false, false, false, false, false] rfl) ?_); (conv => (arg 4; simp only [fgt, if_true, if_false, Bool.false_eq_true])); (refine AW.loop (fun n' t' m => ∃ k : Nat, n' = l.length - k ∧ k ≤ l.length ∧ (∀ j, j < k → F j = 0) ∧ t' = [.slice (some ⟨0, 0, none⟩) l.length c, junk, junk, junk, junk, junk, junk, junk, junk, .slice (some ⟨0, 0, none⟩) l.length c, .int .i64 (l.length), .int .i64 (k), junk, junk, junk, junk, junk, junk, junk, junk, junk, junk, junk, junk, junk, junk, junk, junk, junk, junk] ∧ m = [some ⟨flatP l, false, z⟩]) (l.length) (by exact ⟨0, rfl, Nat.zero_le _, fun j h => absurd h (by omega), rfl, rfl⟩) ?_); (rintro n' t' m ⟨k, rfl, hk, hj, rfl, rfl⟩))
      | refine AW.block ?_
      | (refine AW.draw (id := 8) 6 #[0, 0, 3, 0, 15, 31] kr kr ?_; (conv => (arg 8; simp only [List.take_succ_cons, List.take_zero])))
      | refine AW.region ?_
      | (refine AW.conds rfl (fun hc => ?_) (fun hc => ?_) <;> (try replace hc := nc hc) <;> first | (exfalso; first | contradiction | (first | omega | (simp at hc; done)); done) | skip))
    | ((with_reducible refine AD.on ?_); first
      | ((first | ((with_reducible refine AD.k_assign ?_); first | (refine AD.q rfl (OQ.assign wl) rfl rfl rfl ?_)) | ((with_reducible refine AD.k_move ?_); first | (refine AD.q rfl (OQ.move wl) rfl rfl rfl ?_)) | ((with_reducible refine AD.k_load ?_); first | refine AD.q rfl (OQ.loadN (ty := 47) (n := 2) rfl kr kr (by first | (exact hld _ (by omega) _) | rfl)) rfl rfl rfl ?_) | refine AD.q rfl (by exact OQ.sliceTo (ty := 22) (k := k) (z := 2) (g := true) rfl kr rfl hz rfl rfl (by omega)) rfl rfl rfl ?_); (conv => (arg 10; try tactic => exact nrm)))
      | ((first | first | refine AD.pcall (g := 30) rfl kr rfl ((by exact hq _ k 0 _ rfl rfl (by omega) rfl)) rfl rfl ?_); (conv => (arg 10; try tactic => exact nrm)))
      | (refine AD.nil ?_; (conv => (arg 4; simp only [List.drop_succ_cons, List.drop_zero, List.drop_nil])); (conv => (arg 5; try tactic => exact nrm)); (conv => (arg 6; try tactic => exact nrm))))
    | ((with_reducible refine ex_on ?_); (refine ⟨l.length - (k + 1), _, _, by omega, ?_, k + 1, rfl, by omega, fun j h => (by rcases Nat.lt_or_eq_of_le (Nat.le_of_lt_succ h) with h | rfl; (exact hj j h); (exact e0 _ (by first | assumption | omega) (by first | assumption | omega))), rfl, rfl⟩; exact Wk.keep 1 [] (Nat.le_of_eq hE) rfl rfl (by repeat (first | exact RenT.nil | refine RenT.junk ?_ | refine RenT.val (by first | rfl | with_reducible assumption | (simp only [rn3, rn2, rn1, kσ]; done)) (by first | rfl | assumption | (simp [ok3, ok2, ok1]; done)) ?_)) ⟨⟨_, rfl, rfl, rfl, .inl ⟨rfl, flatP_scal l⟩⟩, trivial⟩))
    | ((with_reducible refine FinJ.on ?_); first | (rw [(h8 (by omega)).1, (h8 (by omega)).2]; first | exact FinJ.ret (.tmp wl (.tmp wl .nil)) (jle_flat rfl) | exact FinJ.end (.tmp wl (.tmp wl .nil)) (jle_flat rfl)) | (rw [(hy (by omega) k (by omega) hj 2 (e2 k ‹_›) (by decide)).1, (hy (by omega) k (by omega) hj 2 (e2 k ‹_›) (by decide)).2]; first | exact FinJ.ret (.tmp wl (.tmp wl .nil)) (jle_flat rfl) | exact FinJ.end (.tmp wl (.tmp wl .nil)) (jle_flat rfl)) | (rw [(hy (by omega) k (by omega) hj 5 (e5 k (by first | assumption | omega) (by first | assumption | omega)) (by decide)).1, (hy (by omega) k (by omega) hj 5 (e5 k (by first | assumption | omega) (by first | assumption | omega)) (by decide)).2]; first | exact FinJ.ret (.tmp wl (.tmp wl .nil)) (jle_flat rfl) | exact FinJ.end (.tmp wl (.tmp wl .nil)) (jle_flat rfl)) | (obtain rfl : k = l.length := (by omega); rw [(h0 (by omega) hj).1, (h0 (by omega) hj).2]; first | exact FinJ.ret (.tmp wl (.tmp wl .nil)) (jle_flat rfl) | exact FinJ.end (.tmp wl (.tmp wl .nil)) (jle_flat rfl))))
end Go.Proofs.Ytmohcmghbfhdlaa
end
end
/- Chapter 6: the order of the points; the pieces of the hull. -/
section
set_option linter.unusedSimpArgs false
set_option linter.unusedVariables false
section
namespace Go.Me
open Go.Ab
theorem flatP_get : ∀ (l : List Pn) (k : Nat), k < l.length → (flatP l)[k * 2]? = some (.int .i64 (pt l k).x) ∧ (flatP l)[k * 2 + 1]? = some (.int .i64 (pt l k).y) := by
  intro l
  induction l with
  | nil => intro k h; simp at h
  | cons a l ih =>
    intro k h
    have e : flatP (a :: l) = .int .i64 a.x :: .int .i64 a.y :: flatP l := rfl
    rw [e]
    cases k with
    | zero => exact ⟨rfl, rfl⟩
    | succ k =>
      have h2 := ih k (by simpa using h)
      rw [show (k + 1) * 2 = k * 2 + 1 + 1 by omega, List.getElem?_cons_succ, List.getElem?_cons_succ, List.getElem?_cons_succ, List.getElem?_cons_succ]
      exact h2
end Go.Me
namespace Go.Proofs.Ytmohcmghbfhdlaa
open Go Go.RowKit Go.Ab Go.Me
set_option maxRecDepth 100000
set_option maxHeartbeats 4000000
attribute [local irreducible] OQ OW AL AW AD AF SW
theorem Or_0 (a b : Int) (c z : Nat) : PCalls Try.prog 76 [.slice (some ⟨0, 0, none⟩) 2 c] [some ⟨[.int .i64 a, .int .i64 b], false, z⟩] (.int .i64 (if a ≠ 0 then a else b)) := by
  have h1 : a ≠ 0 → (if a ≠ 0 then a else b) = a := fun h => if_pos h
  have h2 : a = 0 → (if a ≠ 0 then a else b) = b := fun h => if_neg (fun h3 => h3 h)
  generalize (if a ≠ 0 then a else b) = E0 at *
  refine PCalls.enter (t := [.slice (some ⟨0, 0, none⟩) 2 c, undef, undef, undef, undef, undef, undef, undef, undef, undef, undef, undef, undef, undef, undef, undef, undef, undef]) Try.func76 rfl (ro1p _ rfl) rfl fun E => ?_
  repeat' (first
    | with_reducible refine Then.n ?_
    | with_reducible refine Then.r ?_
    | with_reducible refine Then.x ?_
    | with_reducible refine InB.n ?_
    | with_reducible refine InB.r ?_
    | with_reducible refine InB.hit ?_
    | with_reducible refine InB.miss (by decide) ?_
    | ((with_reducible refine AL.on ?_); first
      | ((first | ((with_reducible refine AL.k_move ?_); first | (refine AL.q rfl (OQ.move wl) ?_)) | ((with_reducible refine AL.k_assign ?_); first | (refine AL.q rfl (OQ.assign wl) ?_)) | ((with_reducible refine AL.k_binOp ?_); first | refine AL.q rfl (OQ.lss rfl rfl) ?_ | refine AL.q rfl (OQ.neq rfl rfl) ?_ | refine AL.q rfl (OQ.addi rfl rfl (by omega)) ?_ | refine AL.q rfl (OQ.add rfl rfl) ?_) | ((with_reducible refine AL.k_call ?_); first | refine AL.q rfl (OQ.lenS (xt := 29) (r := (none, 1, false)) rfl kr) ?_) | ((with_reducible refine AL.k_indexAddr ?_); first | refine AL.q rfl (OQ.idxAddr (ty := 29) (z := 1) (g := false) rfl rfl kr (by omega) (by omega)) ?_) | ((with_reducible refine AL.k_load ?_); first | (refine AL.q rfl (OQ.load1 (ty := 3) rfl kr wl) ?_))); (conv => (arg 5; try tactic => exact nrm)))
      | refine AL.nil ?_)
    | ((with_reducible refine AW.on ?_); first
      | refine AW.seq ?_
      | refine AW.skip ?_
      | refine AW.exit ?_
      | refine AW.ret ?_
      | (refine AW.block (id := 0) ?_; refine AW.unroll 3 ?_)
      | refine AW.block ?_
      | refine AW.region ?_
      | (refine AW.conds rfl (fun hc => ?_) (fun hc => ?_) <;> (try replace hc := nc hc) <;> first | (exfalso; first | contradiction | (omega); done) | skip))
    | with_reducible refine AR.s ?_
    | ((with_reducible refine AR.out ?_); omega; done)
    | ((with_reducible refine FinP.on ?_); (first | refine FinP.ret (.tmp wl .nil) ?_ rfl | refine FinP.end (.tmp wl .nil) ?_ rfl); (try simp only [pack, List.drop, List.take]); all_goals (congr 1; omega)))
theorem Or_q {m : Mem} {k c : Nat} {blk : Blk} (a b : Int) (hb : m.at k = some blk) (hc : blk.cells = [.int .i64 a, .int .i64 b]) (ho : blk.obj = Ob.plain := by rfl) : PCalls Try.prog 76 [.slice (some ⟨k, 0, none⟩) 2 c] m (.int .i64 (if a ≠ 0 then a else b)) := by
  exact PCalls.viaS [k] (Or_0 a b c blk.esz) (ro1p _ rfl) ⟨⟨_, hb, by unfold Blk.shp Blk.shpR; rw [ho]; rfl, (fun h => nomatch h), .inl ⟨hc, rfl⟩⟩, trivial⟩ rfl rfl rfl rfl
def ordP (p q : Pn) : Int := if cmpI p.x q.x ≠ 0 then cmpI p.x q.x else cmpI p.y q.y
theorem ro2p (b c : Blk) (h : b.own = false) (h' : c.own = false) : Mem.ro [some b, some c] := fun k blk hk => by
  match k, hk with
  | 0, hk => cases hk; exact h
  | 1, hk => cases hk; exact h'
theorem less_0 (l : List Pn) (i k c z z1 : Nat) (hi : i < l.length) (hk : k < l.length) : PCalls Try.prog 75 [.int .i64 i, .int .i64 k, .pointer (some ⟨1, 0, none⟩)] [some ⟨flatP l, false, z⟩, some ⟨[.slice (some ⟨0, 0, none⟩) l.length c], false, z1⟩] (.int .i64 (ordP (pt l i) (pt l k))) := by
  have hg := flatP_get l
  have hc2 := fun (a b : Int) (m : Mem) => Compare_q a b m
  have ho := fun (m : Mem) (b : Nat) (blk : Blk) (h1 : m.at b = some blk) (h2 : blk.cells = [.int .i64 (cmpI (pt l i).x (pt l k).x), .int .i64 (cmpI (pt l i).y (pt l k).y)]) (h3 : blk.obj = Ob.plain) => Or_q (c := 2) _ _ h1 h2 h3
  unfold ordP
  generalize cmpI = cmpF at *
  refine PCalls.enter (t := [.int .i64 i, .int .i64 k, .pointer (some ⟨1, 0, none⟩), undef, undef, undef, undef, undef, undef, undef, undef, undef, undef, undef, undef, undef, undef, undef, undef, undef, undef, undef, undef, undef, undef, undef, undef, undef, undef, undef]) Try.func75 rfl (ro2p _ _ rfl rfl) rfl fun E => ?_
  repeat' (first
    | with_reducible refine Then.n ?_
    | with_reducible refine Then.r ?_
    | with_reducible refine Then.x ?_
    | with_reducible refine InB.n ?_
    | with_reducible refine InB.r ?_
    | with_reducible refine InB.hit ?_
    | with_reducible refine InB.miss (by decide) ?_
    | ((with_reducible refine AL.on ?_); first
      | ((first | first | (refine AL.q rfl (OQ.assign wl) ?_)); (conv => (arg 5; try tactic => exact nrm)))
      | ((first | first | refine AL.pcall (g := 76) rfl kr rfl ((by exact ho _ _ _ rfl rfl rfl)) ?_); (conv => (arg 5; try tactic => exact nrm)))
      | ((first | first | refine AL.w rfl (OW.buildSl (ty := 29) (zs := [.int .i64 0]) (n := 1) (g := false) kr kr rfl rfl rfl (by decide) (by decide) rfl rfl) ?_); (conv => (arg 5; try tactic => exact nrm)); (conv => (arg 6; try tactic => exact nrm)))
      | refine AL.nil ?_)
    | ((with_reducible refine AW.on ?_); first
      | refine AW.seq ?_
      | refine AW.skip ?_
      | refine AW.exit ?_
      | refine AW.ret ?_
      | refine AW.block ?_
      | (refine AW.draw (id := 1) 22 #[0, 0, 3, 7, 15, 0, 0, 96, 224, 480, 1023, 0, 0, 6144, 14336, 30720, 0, 0, 196608, 458752, 983040, 2097151, 4194303, 8388607, 16777215] kr kr ?_; (conv => (arg 8; simp only [List.take_succ_cons, List.take_zero])))
      | refine AW.region ?_
      | (refine AW.conds rfl (fun hc => ?_) (fun hc => ?_) <;> (try replace hc := nc hc) <;> first | (exfalso; first | contradiction | (omega); done) | skip))
    | ((with_reducible refine AD.on ?_); first
      | ((first | ((with_reducible refine AD.k_load ?_); first | (refine AD.q rfl (OQ.load1 (ty := 22) rfl kr (by first | (first | exact (hg _ (by omega)).1 | exact (hg _ (by omega)).2) | (conv => lhs; whnf))) rfl rfl rfl ?_) | (refine AD.q rfl (OQ.load1 (ty := 3) rfl kr (by first | (first | exact (hg _ (by omega)).1 | exact (hg _ (by omega)).2) | (conv => lhs; whnf))) rfl rfl rfl ?_)) | ((with_reducible refine AD.k_move ?_); first | (refine AD.q rfl (OQ.move wl) rfl rfl rfl ?_))); (conv => (arg 10; try tactic => exact nrm)))
      | ((first | ((with_reducible refine AD.k_indexAddr ?_); first | refine AD.q rfl (OQ.idxAddr (ty := 22) (z := 2) (g := true) rfl rfl kr (by omega) (by omega)) rfl rfl rfl ?_) | ((with_reducible refine AD.k_fieldAddr ?_); first | refine AD.q rfl (OQ.fieldA (ty := 47) (i := 0) (n := 1) (off := 0) (g := false) rfl kr (by decide)) rfl rfl rfl ?_ | refine AD.q rfl (OQ.fieldA (ty := 47) (i := 1) (n := 1) (off := 1) (g := false) rfl kr (by decide)) rfl rfl rfl ?_) | ((with_reducible refine AD.k_call ?_); first | refine AD.pcall (g := 77) rfl kr rfl (hc2 _ _ _) rfl rfl ?_)); (conv => (arg 10; try tactic => exact nrm)))
      | (refine AD.nil ?_; (conv => (arg 4; simp only [List.drop_succ_cons, List.drop_zero, List.drop_nil])); (conv => (arg 5; try tactic => exact nrm)); (conv => (arg 6; try tactic => exact nrm))))
    | ((with_reducible refine FinP.on ?_); (first | refine FinP.ret (.tmp wl .nil) ?_ rfl | refine FinP.end (.tmp wl .nil) ?_ rfl); (try simp only [pack, List.drop, List.take]); all_goals (rfl)))
end Go.Proofs.Ytmohcmghbfhdlaa
end
end
/- Chapter 6: the pieces of the reference's hull. -/
section
set_option linter.unusedSimpArgs false
set_option linter.unusedVariables false
section
namespace Go.Me
open Go.Ab
def bdB (l : List Pn) (i k : Nat) : Bool := decide (∀ n, n < l.length → 0 ≤ sgn (cr (pt l i) (pt l k) (pt l n)))
theorem sgn_nn (n : Int) : 0 ≤ sgn n ↔ 0 ≤ n := by
  unfold sgn
  repeat' split
  all_goals omega
theorem sgn_z (n : Int) : sgn n = 0 ↔ n = 0 := by
  unfold sgn
  repeat' split
  all_goals omega
theorem bdB_true {l : List Pn} {i k : Nat} : bdB l i k = true ↔ Bord l (pt l i) (pt l k) := by
  unfold bdB
  rw [decide_eq_true_iff]
  constructor
  · intro h q hq
    obtain ⟨n, hn, rfl⟩ := mem_pt hq
    exact (sgn_nn _).1 (h n hn)
  · intro h n hn
    exact (sgn_nn _).2 (h _ (pt_mem hn))
def sgB (p a b : Pn) : Bool := decide (sgn (cr a b p) = 0) && (rgB p.x (if b.x < a.x then b.x else a.x) (if b.x > a.x then b.x else a.x) && rgB p.y (if b.y < a.y then b.y else a.y) (if b.y > a.y then b.y else a.y))
theorem sgB_true {p a b : Pn} : sgB p a b = true ↔ OnSeg p a b := by
  unfold sgB rgB OnSeg
  rw [Bool.and_eq_true, Bool.and_eq_true, decide_eq_true_iff, decide_eq_true_iff, decide_eq_true_iff, sgn_z]
  have e1 : ∀ u v : Int, (if v < u then v else u) = min u v := fun u v => by split <;> omega
  have e2 : ∀ u v : Int, (if v > u then v else u) = max u v := fun u v => by split <;> omega
  rw [e1, e1, e2, e2]
end Go.Me
namespace Go.Proofs.Ytmohcmghbfhdlaa
open Go Go.RowKit Go.Ab Go.Me
set_option maxRecDepth 100000
set_option maxHeartbeats 4000000
attribute [local irreducible] OQ OW AL AW AD AF SW
end Go.Proofs.Ytmohcmghbfhdlaa
end
end
/- Chapter 6: the reference's hull of points on a line. -/
section
set_option linter.unusedSimpArgs false
set_option linter.unusedVariables false
section
namespace Go.Me
open Go.Ab
def flK (l : List Pn) : Nat → Bool
  | 0 => true
  | k + 1 => flK l k && decide (sgn (cr (pt l 0) (pt l 1) (pt l (k + 2))) = 0)
theorem flK_true {l : List Pn} : ∀ k : Nat, flK l k = true ↔ ∀ i, 2 ≤ i → i < k + 2 → cr (pt l 0) (pt l 1) (pt l i) = 0 := by
  intro k
  induction k with
  | zero => exact ⟨fun _ i h1 h2 => by omega, fun _ => rfl⟩
  | succ k ih =>
    unfold flK
    rw [Bool.and_eq_true, decide_eq_true_iff, sgn_z, ih]
    constructor
    · rintro ⟨h1, h2⟩ i h3 h4
      rcases Nat.lt_or_eq_of_le (Nat.le_of_lt_succ h4) with h | rfl
      · exact h1 i h3 h
      · exact h2
    · intro h
      exact ⟨fun i h3 h4 => h i h3 (by omega), h (k + 2) (by omega) (by omega)⟩
theorem flK_flat {l : List Pn} : flK l (l.length - 2) = true ↔ FlatR l := by
  rw [flK_true]
  unfold FlatR
  constructor
  · intro h i h1 h2
    exact h i h1 (by omega)
  · intro h i h1 h2
    exact h i h1 (by omega)
end Go.Me
namespace Go.Proofs.Ytmohcmghbfhdlaa
open Go Go.RowKit Go.Ab Go.Me
set_option maxRecDepth 100000
set_option maxHeartbeats 4000000
attribute [local irreducible] OQ OW AL AW AD AF SW
end Go.Proofs.Ytmohcmghbfhdlaa
end
end
/- Chapter 6: small functions of the nets; the area of a ring of corners. -/
section
set_option linter.unusedSimpArgs false
set_option linter.unusedVariables false
section
namespace Go.Me
open Go.Ab
def wrI (n : Int) : Int := ((n + 2048).tmod 4096 + 4096).tmod 4096 - 2048
theorem tmod_b (a : Int) : -4095 ≤ a.tmod 4096 ∧ a.tmod 4096 ≤ 4095 := by
  have h : (a.tmod 4096).natAbs < 4096 := by
    rw [Int.natAbs_tmod]
    exact Nat.mod_lt _ (by decide)
  omega
theorem wrI_bd (n : Int) : -2048 ≤ wrI n ∧ wrI n ≤ 2047 := by
  have h1 := tmod_b (n + 2048)
  have h2 := Int.tmod_nonneg (a := (n + 2048).tmod 4096 + 4096) 4096 (by omega)
  have h3 := tmod_b ((n + 2048).tmod 4096 + 4096)
  unfold wrI
  omega
def flatO (o : List Nat) : List Value := o.map fun n : Nat => .int .i64 (n : Int)
def ot (o : List Nat) (k : Nat) : Nat := o.getD k 0
theorem flatO_scal (o : List Nat) : (flatO o).all Ab.scal = true := by
  unfold flatO
  rw [List.all_map]
  exact List.all_eq_true.2 fun _ _ => rfl
theorem flatO_get (o : List Nat) (k : Nat) (hk : k < o.length) : (flatO o)[k]? = some (.int .i64 (ot o k)) := by
  unfold flatO ot
  rw [List.getElem?_map, List.getElem?_eq_getElem hk, List.getD_eq_getElem?_getD, List.getElem?_eq_getElem hk]
  rfl
def arS (l : List Pn) (o : List Nat) : Nat → Int
  | 0 => 0
  | k + 1 => arS l o k + ((pt l (ot o k)).x * (pt l (ot o ((k + 1) % o.length))).y - (pt l (ot o k)).y * (pt l (ot o ((k + 1) % o.length))).x)
end Go.Me
namespace Go.Proofs.Ytmohcmghbfhdlaa
open Go Go.RowKit Go.Ab Go.Me
set_option maxRecDepth 100000
set_option maxHeartbeats 4000000
attribute [local irreducible] OQ OW AL AW AD AF SW
theorem wrap_q (n : Int) (hn : -1000000000 ≤ n ∧ n ≤ 1000000000) (m : Mem) : PCalls Try.prog 73 [.int .i64 n] m (.int .i64 (wrI n)) := by
  refine PCalls.any ?_ rfl rfl m
  have h1 := tmod_b (n + 2048)
  have h3 := tmod_b ((n + 2048).tmod 4096 + 4096)
  unfold wrI
  refine PCalls.enter (t := [.int .i64 n, undef, undef, undef, undef, undef, undef, undef, undef]) Try.func73 rfl (ro_nil) rfl fun E => ?_
  repeat' (first
    | with_reducible refine Then.n ?_
    | with_reducible refine Then.r ?_
    | with_reducible refine Then.x ?_
    | with_reducible refine InB.n ?_
    | with_reducible refine InB.r ?_
    | with_reducible refine InB.hit ?_
    | with_reducible refine InB.miss (by decide) ?_
    | ((with_reducible refine AL.on ?_); first
      | ((first | ((with_reducible refine AL.k_binOp ?_); first | refine AL.q rfl (OQ.addi rfl rfl (by omega)) ?_ | refine AL.q rfl (OQ.add rfl rfl) ?_ | refine AL.q rfl (OQ.rem rfl rfl (by omega)) ?_ | refine AL.q rfl (OQ.subi rfl rfl (by omega)) ?_ | refine AL.q rfl (OQ.sub rfl rfl) ?_) | ((with_reducible refine AL.k_assign ?_); first | (refine AL.q rfl (OQ.assign wl) ?_)) | ((with_reducible refine AL.k_move ?_); first | (refine AL.q rfl (OQ.move wl) ?_))); (conv => (arg 5; try tactic => exact nrm)))
      | refine AL.nil ?_)
    | ((with_reducible refine AW.on ?_); first
      | refine AW.seq ?_
      | refine AW.skip ?_
      | refine AW.exit ?_
      | refine AW.ret ?_
      | refine AW.block ?_
      | refine AW.region ?_
      | (refine AW.conds rfl (fun hc => ?_) (fun hc => ?_) <;> (try replace hc := nc hc) <;> first | (exfalso; first | contradiction | (omega); done) | skip))
    | ((with_reducible refine FinP.on ?_); (first | refine FinP.ret (.tmp wl .nil) ?_ rfl | refine FinP.end (.tmp wl .nil) ?_ rfl); (try simp only [pack, List.drop, List.take]); all_goals (rfl)))
theorem around_q (a b c : Int) (m : Mem) : PCalls Try.prog 57 [.agg #[.int .i64 a, .int .i64 b, .int .i64 c]] m (.agg #[.int .i64 a, .int .i64 b, .int .i64 b, .int .i64 c, .int .i64 c, .int .i64 a]) := by
  refine PCalls.any ?_ rfl rfl m
  refine PCalls.enter (t := [.agg #[.int .i64 a, .int .i64 b, .int .i64 c], undef, undef, undef, undef, undef, undef, undef, undef, undef, undef, undef, undef, undef, undef, undef, undef, undef, undef]) Try.func57 rfl (ro_nil) rfl fun E => ?_
  repeat' (first
    | with_reducible refine Then.n ?_
    | with_reducible refine Then.r ?_
    | with_reducible refine Then.x ?_
    | with_reducible refine InB.n ?_
    | with_reducible refine InB.r ?_
    | with_reducible refine InB.hit ?_
    | with_reducible refine InB.miss (by decide) ?_
    | ((with_reducible refine AL.on ?_); first
      | ((first | ((with_reducible refine AL.k_indexAddr ?_); first | refine AL.q rfl (OQ.idxPtr (ty := 79) (n := 1) (l := 3) (g := false) rfl rfl kr (by first | omega | decide) (by first | omega | decide)) ?_) | ((with_reducible refine AL.k_load ?_); first | (refine AL.q rfl (OQ.load1 (ty := 3) rfl kr wl) ?_))); (conv => (arg 5; try tactic => exact nrm)))
      | ((first | first | refine AL.q rfl (OQ.buildA (ty := 45) (zs := [.int .i64 0, .int .i64 0]) (n := 1) (k := 2) (g := false) kr rfl kr rfl rfl rfl) ?_ | refine AL.q rfl (OQ.buildA (ty := 95) (zs := [.int .i64 0, .int .i64 0, .int .i64 0, .int .i64 0, .int .i64 0, .int .i64 0]) (n := 2) (k := 3) (g := true) kr rfl kr rfl rfl rfl) ?_); (conv => (arg 5; try tactic => exact nrm)))
      | ((first | ((with_reducible refine AL.k_box ?_); first | (refine AL.w rfl (OW.box wl (by intro r h; cases h)) ?_)) | ((with_reducible refine AL.k_alloc ?_); first | refine AL.w rfl (OW.alloc (ty := 95) (z := [.int .i64 0, .int .i64 0, .int .i64 0, .int .i64 0, .int .i64 0, .int .i64 0]) kr rfl) ?_) | ((with_reducible refine AL.k_store ?_); first | (refine AL.w rfl (OW.store (ty := 95) (n := 6) rfl wl rfl rfl kr rfl rfl (by decide) rfl (Nat.le_of_ble_eq_true rfl) (by intro r h; cases h)) ?_))); (conv => (arg 5; try tactic => exact nrm)); (conv => (arg 6; try tactic => exact nrm)))
      | refine AL.nil ?_)
    | ((with_reducible refine AW.on ?_); first
      | refine AW.seq ?_
      | refine AW.skip ?_
      | refine AW.exit ?_
      | refine AW.ret ?_
      | refine AW.block ?_
      | refine AW.region ?_
      | (refine AW.conds rfl (fun hc => ?_) (fun hc => ?_) <;> (try replace hc := nc hc) <;> first | (exfalso; first | contradiction | (omega); done) | skip))
    | ((with_reducible refine FinP.on ?_); (first | refine FinP.ret (.cellN (n := 6) wl kr kr rfl .nil) ?_ rfl | refine FinP.end (.cellN (n := 6) wl kr kr rfl .nil) ?_ rfl); (try simp only [pack, List.drop, List.take]); all_goals (rfl)))
theorem tooMuch_q (n : Int) (m : Mem) : PCalls Try.prog 66 [.int .i64 n] m (.bool (!rgB n 0 1000)) := by
  refine PCalls.any ?_ rfl rfl m
  have hw := fun m => within_q n 0 1000 m
  refine PCalls.enter (t := [.int .i64 n, undef, undef, undef, undef, undef]) Try.func66 rfl (ro_nil) rfl fun E => ?_
  repeat' (first
    | with_reducible refine Then.n ?_
    | with_reducible refine Then.r ?_
    | with_reducible refine Then.x ?_
    | with_reducible refine InB.n ?_
    | with_reducible refine InB.r ?_
    | with_reducible refine InB.hit ?_
    | with_reducible refine InB.miss (by decide) ?_
    | ((with_reducible refine AL.on ?_); first
      | ((first | ((with_reducible refine AL.k_assign ?_); first | (refine AL.q rfl (OQ.assign wl) ?_)) | ((with_reducible refine AL.k_move ?_); first | (refine AL.q rfl (OQ.move wl) ?_)) | ((with_reducible refine AL.k_unOp ?_); first | refine AL.q rfl (OQ.not rfl) ?_)); (conv => (arg 5; try tactic => exact nrm)))
      | ((first | first | refine AL.pcall (g := 46) rfl kr rfl (hw _) ?_); (conv => (arg 5; try tactic => exact nrm)))
      | refine AL.nil ?_)
    | ((with_reducible refine AW.on ?_); first
      | refine AW.seq ?_
      | refine AW.skip ?_
      | refine AW.exit ?_
      | refine AW.ret ?_
      | refine AW.block ?_
      | refine AW.region ?_
      | (refine AW.conds rfl (fun hc => ?_) (fun hc => ?_) <;> (try replace hc := nc hc) <;> first | (exfalso; first | contradiction | (omega); done) | skip))
    | ((with_reducible refine FinP.on ?_); (first | refine FinP.ret (.tmp wl .nil) ?_ rfl | refine FinP.end (.tmp wl .nil) ?_ rfl); (try simp only [pack, List.drop, List.take]); all_goals (rfl)))
theorem byEdges_q (a b c d : Int) (m : Mem) : PCalls Try.prog 63 [.agg #[.int .i64 a, .int .i64 b], .agg #[.int .i64 c, .int .i64 d]] m (.int .i64 (ordP ⟨a, b⟩ ⟨c, d⟩)) := by
  refine PCalls.any ?_ rfl rfl m
  have hc := fun (a b : Int) (m : Mem) => Compare_q a b m
  have ho := fun (m : Mem) (k : Nat) (blk : Blk) (h1 : m.at k = some blk) (h2 : blk.cells = [.int .i64 (cmpI a c), .int .i64 (cmpI b d)]) (h3 : blk.obj = Ob.plain) => Or_q (c := 2) _ _ h1 h2 h3
  unfold ordP
  generalize cmpI = cmpF at *
  refine PCalls.enter (t := [.agg #[.int .i64 a, .int .i64 b], .agg #[.int .i64 c, .int .i64 d], undef, undef, undef, undef, undef, undef, undef, undef, undef, undef, undef, undef, undef, undef, undef]) Try.func63 rfl (ro_nil) rfl fun E => ?_
  repeat' (first
    | with_reducible refine Then.n ?_
    | with_reducible refine Then.r ?_
    | with_reducible refine Then.x ?_
    | with_reducible refine InB.n ?_
    | with_reducible refine InB.r ?_
    | with_reducible refine InB.hit ?_
    | with_reducible refine InB.miss (by decide) ?_
    | ((with_reducible refine AL.on ?_); first
      | ((first | first | (refine AL.q rfl (OQ.assign wl) ?_)); (conv => (arg 5; try tactic => exact nrm)))
      | ((first | first | refine AL.pcall (g := 76) rfl kr rfl ((by exact ho _ _ _ rfl rfl rfl)) ?_); (conv => (arg 5; try tactic => exact nrm)))
      | ((first | ((with_reducible refine AL.k_box ?_); first | (refine AL.w rfl (OW.box wl (by intro r h; cases h)) ?_)) | ((with_reducible refine AL.k_buildSlice ?_); first | refine AL.w rfl (OW.buildSl (ty := 29) (zs := [.int .i64 0]) (n := 1) (g := false) kr kr rfl rfl rfl (by decide) (by decide) rfl rfl) ?_)); (conv => (arg 5; try tactic => exact nrm)); (conv => (arg 6; try tactic => exact nrm)))
      | refine AL.nil ?_)
    | ((with_reducible refine AW.on ?_); first
      | refine AW.seq ?_
      | refine AW.skip ?_
      | refine AW.exit ?_
      | refine AW.ret ?_
      | refine AW.block ?_
      | (refine AW.draw (id := 1) 10 #[0, 1, 0, 4, 15, 0, 32, 0, 128, 511, 1023, 2047, 4095] kr kr ?_; (conv => (arg 8; simp only [List.take_succ_cons, List.take_zero])))
      | refine AW.region ?_
      | (refine AW.conds rfl (fun hc => ?_) (fun hc => ?_) <;> (try replace hc := nc hc) <;> first | (exfalso; first | contradiction | (omega); done) | skip))
    | ((with_reducible refine AD.on ?_); first
      | ((first | ((with_reducible refine AD.k_indexAddr ?_); first | refine AD.q rfl (OQ.idxPtr (ty := 45) (n := 1) (l := 2) (g := false) rfl rfl kr (by first | omega | decide) (by first | omega | decide)) rfl rfl rfl ?_) | ((with_reducible refine AD.k_load ?_); first | (refine AD.q rfl (OQ.load1 (ty := 3) rfl kr wl) rfl rfl rfl ?_))); (conv => (arg 10; try tactic => exact nrm)))
      | ((first | first | refine AD.pcall (g := 77) rfl kr rfl (hc _ _ _) rfl rfl ?_); (conv => (arg 10; try tactic => exact nrm)))
      | (refine AD.nil ?_; (conv => (arg 4; simp only [List.drop_succ_cons, List.drop_zero, List.drop_nil])); (conv => (arg 5; try tactic => exact nrm)); (conv => (arg 6; try tactic => exact nrm))))
    | ((with_reducible refine FinP.on ?_); (first | refine FinP.ret (.tmp wl .nil) ?_ rfl | refine FinP.end (.tmp wl .nil) ?_ rfl); (try simp only [pack, List.drop, List.take]); all_goals (rfl)))
end Go.Proofs.Ytmohcmghbfhdlaa
end
end
/- Chapter 6: the area of a ring of corners. -/
section
set_option linter.unusedSimpArgs false
set_option linter.unusedVariables false
section
namespace Go.Me
open Go.Ab
theorem tmod_nat (k n : Nat) : ((k : Int) + 1).tmod n = (((k + 1) % n : Nat) : Int) := by
  rw [Int.ofNat_tmod]
  rfl
theorem arS_bd {l : List Pn} {o : List Nat} (hok : ∀ k, k < o.length → (pt l (ot o k)).Ok) : ∀ k : Nat, k ≤ o.length → -200000000 * (k : Int) ≤ arS l o k ∧ arS l o k ≤ 200000000 * k := by
  intro k
  induction k with
  | zero => intro _; simp [arS]
  | succ k ih =>
    intro h
    have h1 := ih (by omega)
    have h2 := (hok k (by omega)).b
    have h3 := (hok ((k + 1) % o.length) (Nat.mod_lt _ (by omega))).b
    have h4 := mul_bd (m := (pt l (ot o k)).x) (n := (pt l (ot o ((k + 1) % o.length))).y) (a := 10000) (b := 10000) h2.1 h3.2 (by decide)
    have h5 := mul_bd (m := (pt l (ot o k)).y) (n := (pt l (ot o ((k + 1) % o.length))).x) (a := 10000) (b := 10000) h2.2 h3.1 (by decide)
    unfold arS
    omega
end Go.Me
namespace Go.Proofs.Ytmohcmghbfhdlaa
open Go Go.RowKit Go.Ab Go.Me
set_option maxRecDepth 100000
set_option maxHeartbeats 4000000
attribute [local irreducible] OQ OW AL AW AD AF SW
theorem area_0 (l : List Pn) (o : List Nat) (hok : ∀ k, k < l.length → (pt l k).Ok) (ho : ∀ k, k < o.length → ot o k < l.length) (c c2 z z2 : Nat) (hl : o.length ≤ 1000) :
    PCalls Try.prog 58 [.slice (some ⟨0, 0, none⟩) l.length c, .slice (some ⟨1, 0, none⟩) o.length c2] [some ⟨flatP l, false, z⟩, some ⟨flatO o, false, z2⟩] (.int .i64 (arS l o o.length)) := by
  have hld := fun (k : Nat) (hk : k < l.length) (r : Mem) => flatP_ld (m := some ⟨flatP l, false, z⟩ :: r) (b := 0) (l := l) rfl rfl k hk
  have hg := fun (k : Nat) (hk : k < o.length) => flatO_get o k hk
  have hn : ∀ k, k < o.length → ((k : Int) + 1).tmod o.length = (((k + 1) % o.length : Nat) : Int) := fun k _ => tmod_nat k o.length
  have hm : ∀ k, k < o.length → (k + 1) % o.length < o.length := fun k hk => Nat.mod_lt _ (by omega)
  have hpb := fun (k : Nat) (hk : k < o.length) => (hok _ (ho k hk)).b
  have hab := arS_bd (l := l) (o := o) fun k hk => hok _ (ho k hk)
  have hs : ∀ k, arS l o (k + 1) = arS l o k + ((pt l (ot o k)).x * (pt l (ot o ((k + 1) % o.length))).y - (pt l (ot o k)).y * (pt l (ot o ((k + 1) % o.length))).x) := fun k => rfl
  have h00 : arS l o 0 = 0 := rfl
  have hg2 : ∀ k, k < o.length → (flatO o)[(((k : Int) + 1).tmod o.length).toNat]? = some (.int .i64 (ot o ((k + 1) % o.length))) := fun k hk => by
    rw [hn k hk]
    exact hg _ (hm k hk)
  generalize arS l o = F at *
  refine PCalls.enterJ (t := [.slice (some ⟨0, 0, none⟩) l.length c, .slice (some ⟨1, 0, none⟩) o.length c2, undef, undef, undef, undef, undef, undef, undef, undef, undef, undef, undef, undef, undef, undef, undef, undef, undef, undef, undef, undef, undef, undef, undef, undef, undef, undef, undef, undef, undef, undef, undef, undef, undef, undef, undef, undef, undef, undef, undef, undef, undef, undef, undef, undef, undef]) Try.func58 rfl (ro2p _ _ rfl rfl) rfl fun E hE => ?_
  repeat' (first
    | with_reducible refine Then.n ?_
    | with_reducible refine Then.r ?_
    | with_reducible refine Then.x ?_
    | with_reducible refine InB.n ?_
    | with_reducible refine InB.r ?_
    | with_reducible refine InB.hit ?_
    | with_reducible refine InB.miss (by decide) ?_
    | ((with_reducible refine AL.on ?_); first
      | ((first | ((with_reducible refine AL.k_move ?_); first | (refine AL.q rfl (OQ.move wl) ?_)) | ((with_reducible refine AL.k_binOp ?_); first | refine AL.q rfl (OQ.lss rfl rfl) ?_ | refine AL.q rfl (OQ.muli rfl rfl (by omega)) ?_ | refine AL.q rfl (OQ.mul rfl rfl) ?_ | refine AL.q rfl (OQ.subi rfl rfl (by omega)) ?_ | refine AL.q rfl (OQ.sub rfl rfl) ?_ | refine AL.q rfl (OQ.addi rfl rfl (by omega)) ?_ | refine AL.q rfl (OQ.add rfl rfl) ?_) | ((with_reducible refine AL.k_load ?_); first | (refine AL.q rfl (OQ.load1 (ty := 3) rfl kr (by first | (first | exact hg2 k (by omega) | exact hg _ (by omega) | exact hld _ (ho k (by omega)) _ | exact hld _ (ho _ (hm k (by omega))) _) | (conv => lhs; whnf))) ?_)) | ((with_reducible refine AL.k_assign ?_); first | (refine AL.q rfl (OQ.assign wl) ?_)) | ((with_reducible refine AL.k_call ?_); first | refine AL.q rfl (OQ.lenS (xt := 29) (r := (none, 1, false)) rfl kr) ?_)); (conv => (arg 5; try tactic => exact nrm)))
      | ((first | ((with_reducible refine AL.k_indexAddr ?_); first | refine AL.q rfl (OQ.idxAddr (ty := 29) (z := 1) (g := false) rfl rfl kr (by omega) (by omega)) ?_) | ((with_reducible refine AL.k_fieldAddr ?_); first | refine AL.q rfl (OQ.fieldA (ty := 47) (i := 0) (n := 1) (off := 0) (g := false) rfl kr (by decide)) ?_ | refine AL.q rfl (OQ.fieldA (ty := 47) (i := 1) (n := 1) (off := 1) (g := false) rfl kr (by decide)) ?_)); (conv => (arg 5; try tactic => exact nrm)))
      | refine AL.nil ?_)
    | ((with_reducible refine AW.on ?_); first
      | refine AW.seq ?_
      | refine AW.skip ?_
      | refine AW.exit ?_
      | refine AW.ret ?_
      | ((refine AW.block (id := 0) ?_); (refine AW.wk (Wk.forget [true, true, false, false, false, true, false, false, false, false, true, true, true, false, false, false, false, false, false, false, false, false, false, false, false, false, false, false, false, false, false, false, false, false, false, false, false, false, false, false, false, false, false, false, false, false, false] rfl) ?_); (conv => (arg 4; simp only [fgt, if_true, if_false, Bool.false_eq_true])); (refine AW.loop (fun n' t' m => ∃ k : Nat, n' = o.length - k ∧ k ≤ o.length ∧ t' = [.slice (some ⟨0, 0, none⟩) l.length c, .slice (some ⟨1, 0, none⟩) o.length c2, junk, junk, junk, .int .i64 (F k), junk, junk, junk, junk, .slice (some ⟨1, 0, none⟩) o.length c2, .int .i64 (o.length), .int .i64 (k), junk, junk, junk, junk, junk, junk, junk, junk, junk, junk, junk, junk, junk, junk, junk, junk, junk, junk, junk, junk, junk, junk, junk, junk, junk, junk, junk, junk, junk, junk, junk, junk, junk, junk] ∧ m = [some ⟨flatP l, false, z⟩, some ⟨flatO o, false, z2⟩]) (o.length) (by exact ⟨0, rfl, Nat.zero_le _, by rw [h00]; rfl, rfl⟩) ?_); (rintro n' t' m ⟨k, rfl, hk, rfl, rfl⟩))
      | refine AW.block ?_
      | (refine AW.draw (id := 5) 19 #[0, 0, 3, 7, 0, 0, 0, 64, 0, 256, 960, 2016, 4064, 8176, 16368, 0, 0, 98319, 262143] kr kr ?_; (conv => (arg 8; simp only [List.take_succ_cons, List.take_zero])); ((have hk3 : k < o.length := (by omega); have e1 := hn k hk3; have e2 := hm k hk3; have e3 := ho k hk3; have e4 := ho _ e2; have e5 := hpb k hk3; have e6 := hpb _ e2; have e7 := hab k (by omega); have e8 := mul_bd (m := (pt l (ot o k)).x) (n := (pt l (ot o ((k + 1) % o.length))).y) (a := 10000) (b := 10000) e5.1 e6.2 (by decide); have e9 := mul_bd (m := (pt l (ot o k)).y) (n := (pt l (ot o ((k + 1) % o.length))).x) (a := 10000) (b := 10000) e5.2 e6.1 (by decide))))
      | refine AW.region ?_
      | (refine AW.conds rfl (fun hc => ?_) (fun hc => ?_) <;> (try replace hc := nc hc) <;> first | (exfalso; first | contradiction | (first | omega | (simp at hc; done)); done) | skip))
    | ((with_reducible refine AD.on ?_); first
      | ((first | ((with_reducible refine AD.k_move ?_); first | (refine AD.q rfl (OQ.move wl) rfl rfl rfl ?_)) | ((with_reducible refine AD.k_load ?_); first | refine AD.q rfl (OQ.loadN (ty := 47) (n := 2) rfl kr kr (by first | (first | exact hg2 k (by omega) | exact hg _ (by omega) | exact hld _ (ho k (by omega)) _ | exact hld _ (ho _ (hm k (by omega))) _) | rfl)) rfl rfl rfl ?_ | (refine AD.q rfl (OQ.load1 (ty := 3) rfl kr (by first | (first | exact hg2 k (by omega) | exact hg _ (by omega) | exact hld _ (ho k (by omega)) _ | exact hld _ (ho _ (hm k (by omega))) _) | (conv => lhs; whnf))) rfl rfl rfl ?_)) | ((with_reducible refine AD.k_binOp ?_); first | refine AD.q rfl (OQ.addi rfl rfl (by omega)) rfl rfl rfl ?_ | refine AD.q rfl (OQ.add rfl rfl) rfl rfl rfl ?_ | refine AD.q rfl (OQ.rem rfl rfl (by omega)) rfl rfl rfl ?_) | ((with_reducible refine AD.k_call ?_); first | refine AD.q rfl (OQ.lenS (xt := 29) (r := (none, 1, false)) rfl kr) rfl rfl rfl ?_)); (conv => (arg 10; try tactic => exact nrm)))
      | ((first | first | refine AD.q rfl (OQ.idxAddr (ty := 22) (z := 2) (g := true) rfl rfl kr (by omega) (by omega)) rfl rfl rfl ?_ | refine AD.q rfl (OQ.idxAddr (ty := 29) (z := 1) (g := false) rfl rfl kr (by omega) (by omega)) rfl rfl rfl ?_); (conv => (arg 10; try tactic => exact nrm)))
      | ((first | ((with_reducible refine AD.k_alloc ?_); first | refine AD.new (ty := 47) (z := [.int .i64 0, .int .i64 0]) rfl rfl rfl kr rfl (Nat.lt_of_lt_of_le (Nat.lt_succ_self _) (Nat.le_of_ble_eq_true rfl)) rfl ?_) | ((with_reducible refine AD.k_store ?_); first | (refine AD.init (ty := 47) (p := 0) rfl rfl rfl rfl rfl rfl kr wl rfl kr rfl rfl rfl (by intro r h; cases h) ?_) | (refine AD.init (ty := 47) (p := 1) rfl rfl rfl rfl rfl rfl kr wl rfl kr rfl rfl rfl (by intro r h; cases h) ?_))); (conv => (arg 10; try tactic => exact nrm)); (conv => (arg 9; try dsimp only [Nat.reduceAdd])); (conv => (arg 11; try tactic => exact nrm)))
      | (refine AD.nil ?_; (conv => (arg 4; simp only [List.drop_succ_cons, List.drop_zero, List.drop_nil])); (conv => (arg 5; try tactic => exact nrm)); (conv => (arg 6; try tactic => exact nrm))))
    | ((with_reducible refine ex_on ?_); (refine ⟨o.length - (k + 1), _, _, by omega, ?_, k + 1, rfl, by omega, rfl, rfl⟩; rw [hs k]; exact Wk.keep 2 [] (Nat.le_of_eq hE) rfl rfl (by repeat (first | exact RenT.nil | refine RenT.junk ?_ | refine RenT.val (by first | rfl | with_reducible assumption | (simp only [rn3, rn2, rn1, kσ]; done)) (by first | rfl | assumption | (simp [ok3, ok2, ok1]; done)) ?_)) ⟨⟨_, rfl, rfl, rfl, .inl ⟨rfl, flatP_scal l⟩⟩, ⟨_, rfl, rfl, rfl, .inl ⟨rfl, flatO_scal o⟩⟩, trivial⟩))
    | ((with_reducible refine FinJ.on ?_); (obtain rfl : k = o.length := (by omega); first | exact FinJ.ret (.tmp wl .nil) (jle_flat rfl) | exact FinJ.end (.tmp wl .nil) (jle_flat rfl))))
end Go.Proofs.Ytmohcmghbfhdlaa
end
end
/- Chapter 6: Hull of wrong points. -/
section
set_option linter.unusedSimpArgs false
set_option linter.unusedVariables false
section
namespace Go.Proofs.Ytmohcmghbfhdlaa
open Go Go.RowKit Go.Ab Go.Me
set_option maxRecDepth 100000
set_option maxHeartbeats 4000000
attribute [local irreducible] OQ OW AL AW AD AF SW
theorem CheckPoints_q {m : Mem} {b n c : Nat} {blk : Blk} (l : List Pn) (hb : m.at b = some blk) (hc : blk.cells = flatP l) (hn : l.length = n) (hl : l.length ≤ 1000000) (hz : blk.esz = 0 ∨ blk.esz = 2) (ho : blk.obj = Ob.plain := by rfl) : PCalls Try.prog 8 [.slice (some ⟨b, 0, none⟩) n c] m (.tuple #[.int .i64 (cpA l), .int .i64 (cpB l)]) := by
  subst hn
  exact PCalls.viaS [b] (CheckPoints_0 l c blk.esz hl hz) (ro1p _ rfl) ⟨⟨_, hb, by unfold Blk.shp Blk.shpR; rw [ho]; rfl, (fun h => nomatch h), .inl ⟨hc, flatP_scal _⟩⟩, trivial⟩ rfl rfl rfl rfl
end Go.Proofs.Ytmohcmghbfhdlaa
end
end
/- Chapter 6: slices.Reverse of numbers, in place. -/
section
set_option linter.unusedSimpArgs false
set_option linter.unusedVariables false
section
namespace Go.Me
open Go.Ab
def rvK (o : List Nat) : Nat → List Nat
  | 0 => o
  | k + 1 => ((rvK o k).set k (ot (rvK o k) (o.length - 1 - k))).set (o.length - 1 - k) (ot (rvK o k) k)
theorem rvK_len (o : List Nat) : ∀ k, (rvK o k).length = o.length := by
  intro k
  induction k with
  | zero => rfl
  | succ k ih => unfold rvK; rw [List.length_set, List.length_set, ih]
theorem flatO_set (o : List Nat) (k x : Nat) : flatO (o.set k x) = (flatO o).set k (.int .i64 x) := by
  unfold flatO
  rw [List.map_set]
theorem rvK_step (o : List Nat) (k : Nat) : flatO (rvK o (k + 1)) = ((flatO (rvK o k)).set k (.int .i64 (ot (rvK o k) (o.length - 1 - k)))).set (o.length - 1 - k) (.int .i64 (ot (rvK o k) k)) := by
  rw [← flatO_set, ← flatO_set]
  rfl
theorem flatO_len (o : List Nat) : (flatO o).length = o.length := List.length_map _
end Go.Me
namespace Go.Proofs.Ytmohcmghbfhdlaa
open Go Go.RowKit Go.Ab Go.Me
set_option maxRecDepth 100000
set_option maxHeartbeats 4000000
attribute [local irreducible] OQ OW AL AW AD AF SW
theorem Reverse_c (o : List Nat) (c z : Nat) (hl : o.length ≤ 1000) : ACalls Try.prog 54 [.slice (some ⟨0, 0, none⟩) o.length c] [some ⟨flatO o, true, z⟩] (.tuple #[]) [some ⟨flatO (rvK o (o.length / 2)), true, z⟩] := by
  have hlen := rvK_len o
  have hfl := fun k => (flatO_len (rvK o k)).trans (rvK_len o k)
  have g1 := fun (k : Nat) (hk : k < o.length) => flatO_get (rvK o k) k (by rw [rvK_len]; exact hk)
  have g2 := fun (k : Nat) (hk : k < o.length) => flatO_get (rvK o k) (o.length - 1 - k) (by rw [rvK_len]; omega)
  have ht : ∀ k, k < o.length → ((o.length : Int) - 1 - k).toNat = o.length - 1 - k := fun k hk => by omega
  have g3 : ∀ k, k < o.length → (flatO (rvK o k))[((o.length : Int) - 1 - k).toNat]? = some (.int .i64 (ot (rvK o k) (o.length - 1 - k))) := fun k hk => by rw [ht k hk]; exact g2 k hk
  have hS := rvK_step o
  have h0 : rvK o 0 = o := rfl
  have hsc := fun k => flatO_scal (rvK o k)
  refine ACalls.enter (t := [.slice (some ⟨0, 0, none⟩) o.length c, undef, undef, undef, undef, undef, undef, undef, undef, undef, undef, undef, undef, undef, undef, undef, undef, undef, undef, undef, undef, undef, undef, undef, undef, undef, undef, undef]) Try.func54 rfl rfl fun E hE => ?_
  repeat' (first
    | with_reducible refine Then.n ?_
    | with_reducible refine Then.r ?_
    | with_reducible refine Then.x ?_
    | with_reducible refine InB.n ?_
    | with_reducible refine InB.r ?_
    | with_reducible refine InB.hit ?_
    | with_reducible refine InB.miss (by decide) ?_
    | ((with_reducible refine AL.on ?_); first
      | ((first | ((with_reducible refine AL.k_move ?_); first | (refine AL.q rfl (OQ.move wl) ?_)) | ((with_reducible refine AL.k_binOp ?_); first | refine AL.q rfl (OQ.subi rfl rfl (by omega)) ?_ | refine AL.q rfl (OQ.sub rfl rfl) ?_ | refine AL.q rfl (OQ.lss rfl rfl) ?_ | refine AL.q rfl (OQ.addi rfl rfl (by omega)) ?_ | refine AL.q rfl (OQ.add rfl rfl) ?_) | ((with_reducible refine AL.k_assign ?_); first | (refine AL.q rfl (OQ.assign wl) ?_)) | ((with_reducible refine AL.k_call ?_); first | refine AL.q rfl (OQ.lenS (xt := 29) (r := (none, 1, false)) rfl kr) ?_)); (conv => (arg 5; try tactic => exact nrm)))
      | ((first | first | refine AL.q rfl (OQ.idxAddr (ty := 29) (z := 1) (g := false) rfl rfl kr (by omega) (by omega)) ?_); (conv => (arg 5; try tactic => exact nrm)))
      | ((first | first | (refine AL.w rfl (OW.store (ty := 3) (n := 1) rfl wl rfl rfl kr rfl rfl (by decide) rfl (by first | exact Nat.le_of_ble_eq_true rfl | ((first | (simp only [List.length_set, hfl]; omega) | (simp [hfl]; omega)))) (by intro r h; cases h)) ?_)); (conv => (arg 5; try tactic => exact nrm)); (conv => (arg 6; try tactic => exact nrm)))
      | refine AL.nil ?_)
    | ((with_reducible refine AW.on ?_); first
      | refine AW.seq ?_
      | refine AW.skip ?_
      | refine AW.exit ?_
      | refine AW.ret ?_
      | ((refine AW.block (id := 0) ?_); (refine AW.wk (Wk.forget [true, false, true, true, false, false, false, false, false, false, false, false, false, false, false, false, false, false, false, false, false, false, false, false, false, false, false, false] rfl) ?_); (conv => (arg 4; simp only [fgt, if_true, if_false, Bool.false_eq_true])); (refine AW.loop (fun n' t' m => ∃ k : Nat, n' = o.length - k ∧ k + k ≤ o.length ∧ t' = [.slice (some ⟨0, 0, none⟩) o.length c, junk, .int .i64 (k), .int .i64 ((o.length : Int) - 1 - k), junk, junk, junk, junk, junk, junk, junk, junk, junk, junk, junk, junk, junk, junk, junk, junk, junk, junk, junk, junk, junk, junk, junk, junk] ∧ m = [some ⟨flatO (rvK o k), true, z⟩]) (o.length) (by exact ⟨0, rfl, by omega, by simp, by rw [h0]⟩) ?_); (rintro n' t' m ⟨k, rfl, hk, rfl, rfl⟩))
      | refine AW.block ?_
      | (refine AW.drawF (id := 3) 14 #[0, 0, 0, 0, 0, 0, 48, 112, 0, 0, 768, 1792, 4083, 8179, 16383, 32767] kr kr ?_; (conv => (arg 8; simp only [List.take_succ_cons, List.take_zero])); ((have hk3 : k < o.length := (by omega); have e1 := hfl k; have e2 := ht k hk3)))
      | refine AW.region ?_
      | (refine AW.conds rfl (fun hc => ?_) (fun hc => ?_) <;> (try replace hc := nc hc) <;> first | (exfalso; first | contradiction | (first | omega | (simp at hc; done)); done) | skip))
    | ((with_reducible refine AF.on ?_); first
      | ((first | ((with_reducible refine AF.k_move ?_); first | (refine AF.q 0 (SW.q (OQ.move wl) rfl) ?_)) | ((with_reducible refine AF.k_indexAddr ?_); first | refine AF.q 0 (SW.q (OQ.idxAddr (ty := 29) (z := 1) (g := false) rfl rfl kr (by omega) (by omega)) rfl) ?_) | ((with_reducible refine AF.k_load ?_); first | (refine AF.ql rfl (SW.q (OQ.load1 (ty := 3) rfl kr (by first | (first | exact g3 k (by omega) | exact g1 k (by omega)) | (conv => lhs; whnf))) rfl) ?_))); (conv => (arg 9; try tactic => exact nrmF)); (conv => (arg 11; try simp only [List.nil_append, List.cons_append])))
      | ((first | first | (refine AF.sl rfl (SW.w (OW.store (ty := 3) (n := 1) rfl wl rfl rfl kr rfl rfl (by decide) rfl (by first | exact Nat.le_of_ble_eq_true rfl | ((first | (simp only [List.length_set, hfl]; omega) | (simp [hfl]; omega)))) (by intro r h; cases h)) rfl) rfl ?_)); (conv => (arg 9; try tactic => exact nrmF)); (conv => (arg 11; try simp only [List.nil_append, List.cons_append])); (conv => (arg 10; try tactic => exact nrmF)))
      | (refine AF.nil ?_ kr; (conv => (arg 4; simp only [List.drop_succ_cons, List.drop_zero, List.drop_nil]))))
    | ((with_reducible refine ex_on ?_); (rw [show (o.length : Int) - 1 - k - 1 = (o.length : Int) - 1 - ((k + 1 : Nat) : Int) by omega, ht k (by omega)]; refine ⟨o.length - (k + 1), _, _, by omega, ?_, k + 1, rfl, by omega, rfl, rfl⟩; have hs2 := hsc (k + 1); rw [hS k] at hs2 ⊢; exact Wk.keep 1 [] (by rw [hE]; exact Nat.le_refl 1) rfl rfl (by repeat (first | exact RenT.nil | refine RenT.junk ?_ | refine RenT.val (by first | rfl | with_reducible assumption | (simp only [rn3, rn2, rn1, kσ]; done)) (by first | rfl | assumption | (simp [ok3, ok2, ok1]; done)) ?_)) ⟨⟨_, rfl, rfl, rfl, .inl ⟨rfl, hs2⟩⟩, trivial⟩))
    | ((with_reducible refine FinA.on ?_); (obtain rfl : k = o.length / 2 := (by omega); refine FinA.keep 1 [] (.inr rfl) .nil rfl rfl (Nat.le_of_eq hE) rfl rfl ⟨⟨_, rfl, rfl, rfl, .inl ⟨rfl, hsc _⟩⟩, trivial⟩)))
end Go.Proofs.Ytmohcmghbfhdlaa
end
end
/- Chapter 6: the swaps make the list reversed. -/
section
set_option linter.unusedSimpArgs false
set_option linter.unusedVariables false
section
namespace Go.Me
theorem ot_set (A : List Nat) (i x j : Nat) (hj : j < A.length) : ot (A.set i x) j = if i = j then x else ot A j := by
  unfold ot
  rw [List.getD_eq_getElem?_getD, List.getD_eq_getElem?_getD, List.getElem?_set]
  by_cases h : i = j
  · subst h
    simp [hj]
  · simp [h]
theorem rvK_get (o : List Nat) : ∀ k, k + k ≤ o.length → ∀ j, j < o.length → ot (rvK o k) j = if j < k ∨ o.length ≤ j + k then ot o (o.length - 1 - j) else ot o j := by
  intro k
  induction k with
  | zero =>
    intro _ j hj
    rw [if_neg (by omega)]
    rfl
  | succ k ih =>
    intro hk j hj
    have ih := ih (by omega)
    unfold rvK
    rw [ot_set _ _ _ _ (by rw [List.length_set, rvK_len]; exact hj), ot_set _ _ _ _ (by rw [rvK_len]; exact hj), ih k (by omega), ih (o.length - 1 - k) (by omega), ih j hj]
    by_cases h1 : o.length - 1 - k = j
    · rw [if_pos h1, if_neg (by omega), if_pos (by omega), ← h1, show o.length - 1 - (o.length - 1 - k) = k by omega]
    · rw [if_neg h1]
      by_cases h2 : k = j
      · subst h2
        rw [if_pos rfl, if_neg (by omega), if_pos (by omega)]
      · rw [if_neg h2]
        by_cases h3 : j < k ∨ o.length ≤ j + k
        · rw [if_pos h3, if_pos (by omega)]
        · rw [if_neg h3, if_neg (by omega)]
theorem ot_eq (A : List Nat) (j : Nat) (h : j < A.length) : A[j] = ot A j := by
  unfold ot
  rw [List.getD_eq_getElem?_getD, List.getElem?_eq_getElem h]
  rfl
theorem rvK_rev (o : List Nat) : rvK o (o.length / 2) = o.reverse := by
  refine List.ext_getElem (by rw [rvK_len, List.length_reverse]) fun j h1 h2 => ?_
  rw [rvK_len] at h1
  rw [ot_eq, rvK_get o _ (by omega) j h1, List.getElem_reverse, ot_eq]
  by_cases h : j < o.length / 2 ∨ o.length ≤ j + o.length / 2
  · rw [if_pos h]
  · rw [if_neg h, show o.length - 1 - j = j by omega]
end Go.Me
end
end
/- Chapter 6: slices.Reverse in a greater memory. -/
section
set_option linter.unusedSimpArgs false
set_option linter.unusedVariables false
section
namespace Go.Proofs.Ytmohcmghbfhdlaa
open Go Go.RowKit Go.Ab Go.Me
set_option maxRecDepth 100000
set_option maxHeartbeats 4000000
attribute [local irreducible] OQ OW AL AW AD AF SW
theorem Reverse_q {m : Mem} {b n c z : Nat} (o : List Nat) (hb : m.at b = some ⟨flatO o, true, z⟩) (hn : o.length = n) (hl : o.length ≤ 1000) : ACalls Try.prog 54 [.slice (some ⟨b, 0, none⟩) n c] m (.tuple #[]) (setAll m [(b, some ⟨flatO o.reverse, true, z⟩)]) := by
  subst hn
  have h := Reverse_c o c z hl
  rw [rvK_rev] at h
  have h2 := ACalls.viaS (m := m) (args := [.slice (some ⟨b, 0, none⟩) o.length c]) (v := .tuple #[]) [b] [(b, some ⟨flatO o.reverse, true, z⟩)] [] h ⟨⟨_, hb, rfl, (fun _ => rfl), .inl ⟨rfl, flatO_scal _⟩⟩, trivial⟩ (by simp) ?_ rfl rfl rfl rfl
  · rw [List.append_nil] at h2
    exact h2
  · exact ⟨rfl, ⟨rfl, rfl, rfl, .inl ⟨rfl, flatO_scal _⟩⟩, trivial⟩
end Go.Proofs.Ytmohcmghbfhdlaa
end
end
/- Chapter 6: the closure of the sort, in a greater memory. -/
section
set_option linter.unusedSimpArgs false
set_option linter.unusedVariables false
section
namespace Go.Proofs.Ytmohcmghbfhdlaa
open Go Go.RowKit Go.Ab Go.Me
set_option maxRecDepth 100000
set_option maxHeartbeats 4000000
attribute [local irreducible] OQ OW AL AW AD AF SW
theorem less_q {m : Mem} {b d c : Nat} {blk blk2 : Blk} (l : List Pn) (i k : Nat) (hi : i < l.length) (hk : k < l.length) (hb : m.at b = some blk) (hc : blk.cells = flatP l) (ho : blk.obj = Ob.plain) (hd : m.at d = some blk2) (hc2 : blk2.cells = [.slice (some ⟨b, 0, none⟩) l.length c]) (ho2 : blk2.obj = Ob.plain) :
    PCalls Try.prog 75 [.int .i64 i, .int .i64 k, .pointer (some ⟨d, 0, none⟩)] m (.int .i64 (ordP (pt l i) (pt l k))) := by
  exact PCalls.viaS [b, d] (less_0 l i k c blk.esz blk2.esz hi hk) (ro2p _ _ rfl rfl) ⟨⟨_, hb, by unfold Blk.shp Blk.shpR; rw [ho]; rfl, (fun h => nomatch h), .inl ⟨hc, flatP_scal _⟩⟩, ⟨_, hd, by unfold Blk.shp Blk.shpR; rw [ho2]; rfl, (fun h => nomatch h), .inr ⟨hc2, rfl⟩⟩, trivial⟩ rfl rfl rfl rfl
end Go.Proofs.Ytmohcmghbfhdlaa
end
end
/- Chapter 6: the order of points is total. -/
section
set_option linter.unusedSimpArgs false
set_option linter.unusedVariables false
section
namespace Go.Me
theorem ordP_neg (p q : Pn) : Go.Proofs.Ytmohcmghbfhdlaa.ordP p q < 0 ↔ lexLt p q := by
  unfold Go.Proofs.Ytmohcmghbfhdlaa.ordP Go.Proofs.Ytmohcmghbfhdlaa.cmpI lexLt
  repeat' split
  all_goals omega
theorem ordP_tie {p q : Pn} (h1 : ¬ Go.Proofs.Ytmohcmghbfhdlaa.ordP p q < 0) (h2 : ¬ Go.Proofs.Ytmohcmghbfhdlaa.ordP q p < 0) : p = q := by
  rw [ordP_neg] at h1 h2
  unfold lexLt at h1 h2
  obtain ⟨a, b⟩ := p
  obtain ⟨c, d⟩ := q
  simp only at h1 h2
  obtain rfl : a = c := by omega
  obtain rfl : b = d := by omega
  rfl
theorem lexLt_or {p q : Pn} (h : p ≠ q) : lexLt p q ∨ lexLt q p := by
  rcases Classical.em (Go.Proofs.Ytmohcmghbfhdlaa.ordP p q < 0) with h1 | h1
  · exact .inl ((ordP_neg p q).1 h1)
  · rcases Classical.em (Go.Proofs.Ytmohcmghbfhdlaa.ordP q p < 0) with h2 | h2
    · exact .inr ((ordP_neg q p).1 h2)
    · exact absurd (ordP_tie h1 h2) h
end Go.Me
end
end
/- The small memory: calls that hang on the first blocks of the world (package variables that the library reads): they lie as in the world W0. -/
section
set_option linter.unusedSimpArgs false
set_option linter.unusedVariables false
namespace Go
open Go.RowKit
namespace Ab

def ACallsW (N0 : Nat) (W0 : World) (P : Program) (f : FuncId) (args : List Value) (m : Mem) (v : Value) (m' : Mem) : Prop :=
  ∀ (E : Env) (ρ : Ren) (args' : Array Value) (w : World), EW N0 W0 E → VRel ρ (.tuple args.toArray) (.tuple args') → St E ρ m w →
    Calls P f args' w fun e w' => ∃ v' ρ', e = .returned v' ∧ Ext ρ ρ' ∧ VRel ρ' v v' ∧ St E ρ' m' w'
def PCallsW (N0 : Nat) (W0 : World) (P : Program) (f : FuncId) (args : List Value) (m : Mem) (v : Value) : Prop :=
  ∀ (ρ : Ren) (args' : Array Value) (w : World), GW N0 W0 w → (∀ b pl, ρ b = some pl → b < m.length) → VRel ρ (.tuple args.toArray) (.tuple args') → MRel ρ m w →
    Calls P f args' w fun e w' => ∃ v', e = .returned v' ∧ VRel ρ v v' ∧ Grw w.heap.size w w'
theorem ACallsW.via {P : Program} {f : FuncId} {args0 args : List Value} {m0 m mE m' : Mem} {v0 v : Value} {k : Nat} (τ : Nat → Nat) {N0 : Nat} {W0 : World} (h : ACallsW N0 W0 P f args0 m0 v0 mE) (hl : LiesA m0 m τ) (ha : After m0 m τ mE m' k)
    (hargs : args0.map (rn3 τ) = args) (hk : args0.all (ok3 m0.length) = true) (hv : rn3 (τn τ m0.length m.length) v0 = v) (hkv : ok3 mE.length v0 = true) : ACallsW N0 W0 P f args m v m' := by
  intro E ρ args' w hKW hrel hst
  subst hargs
  subst hv
  have hτ : ∀ b, b < m0.length → τ b < m.length := fun b hb => by
    obtain ⟨blk, hblk⟩ := hl.here b hb
    obtain ⟨blk', h1, _⟩ := hl.blk b blk hblk
    exact Mem.at_lt h1
  -- the small memory as it lies
  let E1 : Env := ⟨w, fun x => ∃ b blk pl, m0.at b = some blk ∧ blk.own = true ∧ ρ (τ b) = some pl ∧ pl.blk = x, ρ.via m0.length τ, m0.length, fun b pl hb => by
    unfold Ren.via at hb
    split at hb
    · assumption
    · cases hb⟩
  have hst1 : St E1 (ρ.via m0.length τ) m0 w := by
    refine ⟨rfl, rfl, ⟨rfl, Nat.le_refl _⟩, Nat.le_refl _, fun _ _ _ => rfl, fun _ _ => rfl, Nat.le_refl _, E1.hdom, fun b blk hb => ?_, fun b blk pl hb ho hp => ?_⟩
    · obtain ⟨blk', h1, h2, h3, h4⟩ := hl.blk b blk hb
      obtain ⟨pl, hp, ⟨x, c, ty, fr, g1, gx, g2, g3, g4⟩, g5⟩ := hst.mem _ _ h1
      obtain ⟨h2, hrow⟩ := shp_eq h2
      refine ⟨pl, by rw [via_get (Mem.at_lt hb)]; exact hp, ⟨x, c, ty, fr, g1, hrow _ _ _ _ _ _ (fun b hb => via_get hb) gx, by rw [← h2]; exact g2, fun i u hu => ?_, fun ho => g4 (h3 ho)⟩, fun ho b2 blk2 pl2 hne hb2 hp2 => ?_⟩
      · obtain ⟨u', q1, q2⟩ := g3 i _ (h4 i u hu)
        exact ⟨u', q1, rn1_to q2 (List.all_eq_true.1 (hl.cells b blk hb) u (List.mem_of_getElem? hu))⟩
      · rw [via_get (Mem.at_lt hb2)] at hp2
        obtain ⟨blk3, j1, _⟩ := hl.blk b2 blk2 hb2
        exact g5 (h3 ho) (τ b2) blk3 pl2 (fun e => hne (hl.inj b b2 blk hb ho (Mem.at_lt hb2) e.symm).symm) j1 hp2
    · rw [via_get (Mem.at_lt hb)] at hp
      exact .inr ⟨b, blk, pl, hb, ho, hp, rfl⟩
  have hargs1 : VRel (ρ.via m0.length τ) (.tuple args0.toArray) (.tuple args') := by
    obtain ⟨xs', e, h1, h2⟩ := hrel.tuple_inv
    cases e
    refine .tuple (by simpa using h1) fun i hi hi' => ?_
    have hi0 : i < args0.length := by simpa using hi
    obtain ⟨u', e1, e2⟩ := h2 i (rn3 τ args0[i]) (by simp [hi0])
    have : u' = args'[i] := by
      rw [Array.getElem?_eq_getElem hi'] at e1
      exact (Option.some.inj e1).symm
    subst this
    simpa using rn3_to e2 (List.all_eq_true.1 hk _ (List.getElem_mem hi0))
  have hE1 : EW N0 W0 E1 := ⟨hKW.at hst, fun x hx ⟨b, blk, pl, hb, ho, hp, he⟩ => by
    obtain ⟨blk', j1, _, j3, _⟩ := hl.blk b blk hb
    subst he
    rcases hst.fresh _ _ _ j1 (j3 ho) hp with hf | hf
    · have := hKW.1.1; omega
    · exact hKW.2 _ hx hf⟩
  refine (h E1 _ args' w hE1 hargs1 hst1).mono ?_
  rintro e w' ⟨v', ρ2, rfl, hext, hvr, hs2⟩
  let ρ' : Ren := fun b => if b < m.length then ρ b else ρ2 (m0.length + (b - m.length))
  have hρ : Ext ρ ρ' := fun b pl hb => by
    show (if b < m.length then ρ b else _) = _
    rw [if_pos (hst.dom b pl hb)]
    exact hb
  have hold : ∀ b pl, b < m0.length → ρ2 b = some pl → ρ (τ b) = some pl := fun b pl hb hp => by
    obtain ⟨blk, hblk⟩ := hl.here b hb
    obtain ⟨pl0, hp0, _⟩ := hst1.mem b blk hblk
    have := hext b pl0 hp0
    rw [hp] at this
    cases Option.some.inj this
    rw [via_get hb] at hp0
    exact hp0
  have hκ : ∀ b pl, ρ2 b = some pl → b < mE.length ∧ ρ' (τn τ m0.length m.length b) = some pl := fun b pl hp => by
    refine ⟨hs2.dom b pl hp, ?_⟩
    unfold τn
    by_cases hb : b < m0.length
    · rw [if_pos hb]
      show (if τ b < m.length then ρ (τ b) else _) = _
      rw [if_pos (hτ b hb)]
      exact hold b pl hb hp
    · rw [if_neg hb]
      show (if m.length + (b - m0.length) < m.length then _ else ρ2 (m0.length + (m.length + (b - m0.length) - m.length))) = _
      rw [if_neg (by omega), show m0.length + (m.length + (b - m0.length) - m.length) = b by omega]
      exact hp
  have hκe : Ext ρ2 (ρ'.via mE.length (τn τ m0.length m.length)) := rn1_ext hκ
  have hsize : w.heap.size ≤ w'.heap.size := hs2.size
  -- blocks of the greater memory that the call does not own
  have hfar : ∀ b blk pl, m.at b = some blk → ρ b = some pl → (∀ c blk0, m0.at c = some blk0 → blk0.own = true → τ c ≠ b) → w'.heap[pl.blk]? = w.heap[pl.blk]? := fun b blk pl hb hp hno => by
    obtain ⟨pl0, hp0, hbr, _⟩ := hst.mem b blk hb
    cases Option.some.inj (hp0.symm.trans hp)
    refine hs2.same _ hbr.lt ?_
    rintro ⟨c, blk0, pl1, hc, hco, hc1, hc2⟩
    obtain ⟨blk1, j1, j2, j3, _⟩ := hl.blk c blk0 hc
    obtain ⟨pl2, hp2, _, hown⟩ := hst.mem _ _ j1
    cases Option.some.inj (hp2.symm.trans hc1)
    exact hown (j3 hco) b blk pl (fun e => hno c blk0 hc hco e.symm) hb hp hc2.symm
  -- a block that the call owns, or has made, seen from the greater memory
  have hmine : ∀ c b blk pl, mE.at c = some blk → blk.own = true → ρ2 c = some pl → b = τn τ m0.length m.length c → BRel ρ' (rnB (τn τ m0.length m.length) blk) pl w' := by
    rintro c b blk pl hc ho hp rfl
    obtain ⟨pl0, hp0, ⟨x, cc, ty, fr, k0, kx, k1, k2, k3⟩, _⟩ := hs2.mem c blk hc
    cases Option.some.inj (hp0.symm.trans hp)
    refine ⟨x, cc, ty, fr, k0, kx.map (fun b pl hb => (hκ b pl hb).2), k1, fun i u hu => ?_, k3⟩
    simp only [rnB, List.getElem?_map] at hu
    cases hi : blk.cells[i]? with
    | none => rw [hi] at hu; cases hu
    | some u0 =>
      rw [hi] at hu
      simp only [Option.map_some, Option.some.injEq] at hu
      subst hu
      obtain ⟨u', q1, q2⟩ := k2 i u0 hi
      exact ⟨u', q1, rn1_of (q2.ext hκe) (List.all_eq_true.1 (ha.ok c blk hc ho) u0 (List.mem_of_getElem? hi))⟩
  -- where a block of the greater memory comes from
  have hfrom : ∀ b blk', m'.at b = some blk' → (m.at b = some blk' ∧ b < m.length ∧ ∀ c blk0, m0.at c = some blk0 → blk0.own = true → τ c ≠ b) ∨
      ∃ c blk, mE.at c = some blk ∧ blk.own = true ∧ blk' = rnB (τn τ m0.length m.length) blk ∧ b = τn τ m0.length m.length c := by
    intro b blk' hb
    by_cases hbm : b < m.length
    · by_cases hex : ∃ c blk0, m0.at c = some blk0 ∧ blk0.own = true ∧ τ c = b
      · obtain ⟨c, blk0, hc, hco, rfl⟩ := hex
        rw [ha.own c blk0 hc hco] at hb
        cases hcE : mE.at c with
        | none => rw [hcE] at hb; cases hb
        | some blk =>
          rw [hcE] at hb
          simp only [Option.map_some, Option.some.injEq] at hb
          exact .inr ⟨c, blk, hcE, ha.nown c blk hcE (fun _ => ⟨blk0, hc, hco⟩), hb.symm, by unfold τn; rw [if_pos (Mem.at_lt hc)]⟩
      · have hno : ∀ c blk0, m0.at c = some blk0 → blk0.own = true → τ c ≠ b := fun c blk0 h1 h2 h3 => hex ⟨c, blk0, h1, h2, h3⟩
        rw [ha.old b hbm hno] at hb
        exact .inl ⟨hb, hbm, hno⟩
    · have hlt := Mem.at_lt hb
      rw [ha.len'] at hlt
      obtain ⟨j, rfl⟩ : ∃ j, b = m.length + j := ⟨b - m.length, by omega⟩
      have hj : j < k := by omega
      rw [ha.new j hj] at hb
      cases hcE : mE.at (m0.length + j) with
      | none => rw [hcE] at hb; cases hb
      | some blk =>
        rw [hcE] at hb
        simp only [Option.map_some, Option.some.injEq] at hb
        exact .inr ⟨m0.length + j, blk, hcE, ha.nown _ blk hcE (fun h => by omega), hb.symm, by unfold τn; rw [if_neg (by omega)]; omega⟩
  have hpl : ∀ c pl, ρ2 c = some pl → ρ' (τn τ m0.length m.length c) = some pl := fun c pl hp => (hκ c pl hp).2
  refine ⟨v', ρ', rfl, hρ, rn3_of (hvr.ext hκe) hkv, ⟨hs2.os.trans hst.os, hs2.tape.trans hst.tape, ⟨hs2.output.1.trans hst.output.1, Nat.le_trans hst.output.2 hs2.output.2⟩, Nat.le_trans hst.size hsize, fun x hx hxs => ?_, fun b hb => (if_pos (Nat.lt_of_lt_of_le hb hst.len)).trans (hst.ext b hb), by have := hst.len; rw [ha.len']; omega, fun b pl hb => ?_, fun b blk' hb => ?_, fun b blk' pl hb ho hp => ?_⟩⟩
  · rw [hs2.same x (Nat.lt_of_lt_of_le hx hst.size) ?_]
    · exact hst.same x hx hxs
    · rintro ⟨c, blk0, pl, hc, hco, hp, rfl⟩
      obtain ⟨blk1, j1, j2, j3, _⟩ := hl.blk c blk0 hc
      rcases hst.fresh _ _ _ j1 (j3 hco) hp with hf | hf
      · omega
      · exact hxs hf
  · rw [ha.len']
    by_cases hbm : b < m.length
    · omega
    · have hb' : ρ2 (m0.length + (b - m.length)) = some pl := by
        have : (if b < m.length then ρ b else ρ2 (m0.length + (b - m.length))) = some pl := hb
        rwa [if_neg hbm] at this
      have := hs2.dom _ _ hb'
      rw [ha.len] at this
      omega
  · rcases hfrom b blk' hb with ⟨hbm, hlt, hno⟩ | ⟨c, blk, hc, hco, rfl, rfl⟩
    · obtain ⟨pl, hp, hbr, hown⟩ := hst.mem b blk' hbm
      refine ⟨pl, hρ b pl hp, hbr.ext hρ (hfar b blk' pl hbm hp hno), fun ho b2 blk2 pl2 hne hb2 hp2 => ?_⟩
      rcases hfrom b2 blk2 hb2 with ⟨hbm2, hlt2, hno2⟩ | ⟨c2, blk2', hc2, hco2, rfl, rfl⟩
      · have : (if b2 < m.length then ρ b2 else ρ2 (m0.length + (b2 - m.length))) = some pl2 := hp2
        rw [if_pos hlt2] at this
        exact hown ho b2 blk2 pl2 hne hbm2 this
      · obtain ⟨pl3, hp3, _, _⟩ := hs2.mem c2 blk2' hc2
        have e3 := hpl c2 pl3 hp3
        rw [hp2] at e3
        cases Option.some.inj e3
        rcases hs2.fresh c2 blk2' _ hc2 hco2 hp3 with hf | ⟨c4, blk4, pl4, h41, h42, h43, h44⟩
        · have h1 := hbr.lt
          have h2 : w.heap.size ≤ pl2.blk := hf
          omega
        · obtain ⟨blk5, j1, j2, j3, _⟩ := hl.blk c4 blk4 h41
          rw [← h44]
          exact hown ho (τ c4) blk5 pl4 (hno c4 blk4 h41 h42) j1 h43
    · obtain ⟨pl, hp, _, hown⟩ := hs2.mem c blk hc
      refine ⟨pl, hpl c pl hp, hmine c _ blk pl hc hco hp rfl, fun _ b2 blk2 pl2 hne hb2 hp2 => ?_⟩
      rcases hfrom b2 blk2 hb2 with ⟨hbm2, hlt2, hno2⟩ | ⟨c2, blk2', hc2, hco2, rfl, rfl⟩
      · have hp2' : ρ b2 = some pl2 := by
          have : (if b2 < m.length then ρ b2 else ρ2 (m0.length + (b2 - m.length))) = some pl2 := hp2
          rwa [if_pos hlt2] at this
        obtain ⟨pl6, hp6, hbr6, _⟩ := hst.mem b2 blk2 hbm2
        cases Option.some.inj (hp6.symm.trans hp2')
        rcases hs2.fresh c blk pl hc hco hp with hf | ⟨c4, blk4, pl4, h41, h42, h43, h44⟩
        · have h1 := hbr6.lt
          have h2 : w.heap.size ≤ pl.blk := hf
          omega
        · obtain ⟨blk5, j1, j2, j3, _⟩ := hl.blk c4 blk4 h41
          obtain ⟨pl7, hp7, _, hown7⟩ := hst.mem _ _ j1
          cases Option.some.inj (hp7.symm.trans h43)
          rw [← h44]
          exact hown7 (j3 h42) b2 blk2 pl2 (Ne.symm (hno2 c4 blk4 h41 h42)) hbm2 hp2'
      · obtain ⟨pl3, hp3, _, _⟩ := hs2.mem c2 blk2' hc2
        have e3 := hpl c2 pl3 hp3
        rw [hp2] at e3
        cases Option.some.inj e3
        exact hown hco c2 blk2' pl2 (fun e => hne (by rw [e])) hc2 hp3
  · rcases hfrom b blk' hb with ⟨hbm, hlt, hno⟩ | ⟨c, blk, hc, hco, rfl, rfl⟩
    · have : (if b < m.length then ρ b else ρ2 (m0.length + (b - m.length))) = some pl := hp
      rw [if_pos hlt] at this
      exact hst.fresh b blk' pl hbm ho this
    · obtain ⟨pl3, hp3, _, _⟩ := hs2.mem c blk hc
      have e3 := hpl c pl3 hp3
      rw [hp] at e3
      cases Option.some.inj e3
      rcases hs2.fresh c blk pl hc hco hp3 with hf | ⟨c4, blk4, pl4, h41, h42, h43, h44⟩
      · exact .inl (Nat.le_trans hst.size hf)
      · obtain ⟨blk5, j1, j2, j3, _⟩ := hl.blk c4 blk4 h41
        rw [← h44]
        exact hst.fresh _ _ _ j1 (j3 h42) h43
theorem ACallsW.enter {P : Program} {f : FuncId} {fn : Func} {c : Code} {args : List Value} {m : Mem} {v : Value} {mE : Mem} {t : T} {N0 : Nat} {W0 : World} (hf : P.funcs[f]? = some fn) (hb : fn.body = some c)
    (ht : args ++ List.replicate (fn.ntmps - args.length) undef = t)
    (h : ∀ E : Env, E.n0 = m.length → EW N0 W0 E → AW P E c t m (FinA P E fn v mE)) : ACallsW N0 W0 P f args m v mE := by
  subst ht
  intro E0 ρ args' w hKW ha hst
  refine calls_of_wp hf hb ?_
  have hsz : args.length = args'.size := by
    obtain ⟨xs', e, h1, _⟩ := ha.tuple_inv
    cases e
    simpa using h1
  let E : Env := ⟨E0.W, E0.S, ρ, m.length, hst.dom⟩
  refine wp_mono (h E rfl hKW ρ _ w rfl ?_ ?_) ?_
  · refine ⟨by simp [hsz], fun i u hu => ?_⟩
    obtain ⟨xs', e, h1, h2⟩ := ha.tuple_inv
    cases e
    simp only at hu ⊢
    rw [List.getElem?_append] at hu
    rw [Array.getElem?_append]
    split at hu
    · rename_i hi
      rw [if_pos (by omega)]
      exact h2 i u (by simpa using hu)
    · rename_i hi
      rw [if_neg (by omega)]
      rw [← hsz]
      rw [List.getElem?_replicate] at hu
      split at hu
      · rename_i hi'
        cases Option.some.inj hu
        exact ⟨undef, by simp [hi'], .undef⟩
      · cases hu
  · exact ⟨hst.os, hst.tape, hst.output, hst.size, hst.same, fun _ _ => rfl, Nat.le_refl _, hst.dom, hst.mem, hst.fresh⟩
  · rintro e a w' ⟨hd, ρ', t', m', ⟨he, vs, σ, hr, hv, hok, hren, hid, hinj⟩, ht, hs⟩
    obtain ⟨v', hrun, hvr⟩ := run_results (P := P) (w := w') ht hs.mem hr
    rw [← hv] at hvr
    have hvr' := rn3_to hvr hok
    have hs' := hs.ren σ hren hid hinj
    have hst' : St E0 (ρ'.via mE.length σ) mE w' := ⟨hs'.os, hs'.tape, hs'.output, hs'.size, hs'.same, fun b hb => (hs'.ext b (Nat.lt_of_lt_of_le hb hst.len)).trans (hst.ext b hb), Nat.le_trans hst.len hs'.len, hs'.dom, hs'.mem, hs'.fresh⟩
    rcases he with rfl | rfl
    · exact bodyPost_ret hrun hd ⟨v', _, rfl, hs'.extE, hvr', hst'⟩
    · exact bodyPost_end hrun hd ⟨v', _, rfl, hs'.extE, hvr', hst'⟩

theorem PCallsW.acalls {N0 : Nat} {W0 : World} {P : Program} {f : FuncId} {args : List Value} {m : Mem} {v : Value} (h : PCallsW N0 W0 P f args m v) : ACallsW N0 W0 P f args m v m :=
  fun E ρ args' w hK ha hs => (h ρ args' w (hK.at hs) hs.dom ha hs.mem).mono fun e w' ⟨v', he, hv, hb⟩ => ⟨v', ρ, he, .refl _, hv, hs.below hb⟩
theorem PCallsW.via {P : Program} {f : FuncId} {args0 args : List Value} {m0 m : Mem} {v0 v : Value} (τ : Nat → Nat) {N0 : Nat} {W0 : World} (h : PCallsW N0 W0 P f args0 m0 v0) (hm : Lies m0 m τ)
    (ha : args0.map (rn3 τ) = args) (hk : args0.all (ok3 m0.length) = true) (hv : rn3 τ v0 = v) (hkv : ok3 m0.length v0 = true) : PCallsW N0 W0 P f args m v := by
  intro ρ args' w hKW hdom hargs hmr
  subst ha
  subst hv
  refine (h (ρ.via m0.length τ) args' w hKW (fun b pl hb => ?_) ?_ ?_).mono ?_
  · unfold Ren.via at hb
    split at hb
    · assumption
    · cases hb
  · obtain ⟨xs', e, h1, h2⟩ := hargs.tuple_inv
    cases e
    refine .tuple (by simpa using h1) fun i hi hi' => ?_
    have hi0 : i < args0.length := by simpa using hi
    obtain ⟨u', e1, e2⟩ := h2 i (rn3 τ args0[i]) (by simp [hi0])
    have : u' = args'[i] := by
      rw [Array.getElem?_eq_getElem hi'] at e1
      exact (Option.some.inj e1).symm
    subst this
    simpa using rn3_to e2 (List.all_eq_true.1 hk _ (List.getElem_mem hi0))
  · intro b blk hb
    obtain ⟨ho, hs, blk', hb', he, hc⟩ := hm b blk hb
    obtain ⟨pl, hp, ⟨x, c, ty, fr, g1, gx, g2, g3, g4⟩, g5⟩ := hmr _ _ hb'
    obtain ⟨he, hrow⟩ := shp_eq he
    refine ⟨pl, by rw [via_get (Mem.at_lt hb)]; exact hp, ⟨x, c, ty, fr, g1, hrow _ _ _ _ _ _ (fun b hb => via_get hb) gx, by rw [← he]; exact g2, fun i u hu => ?_, fun h => by rw [ho] at h; cases h⟩, fun h => by rw [ho] at h; cases h⟩
    obtain ⟨u', q1, q2⟩ := g3 i _ (hc i u hu)
    exact ⟨u', q1, rn1_to q2 (List.all_eq_true.1 hs u (List.mem_of_getElem? hu))⟩
  · rintro e w' ⟨v', rfl, hv, hb⟩
    exact ⟨v', rfl, rn3_of hv hkv, hb⟩

section
variable {P : Program} {E : Env} {ops : Array Oper} {rest : List Oper} {t : T} {m : Mem} {Q : Post}
end
end Ab
end Go
end
