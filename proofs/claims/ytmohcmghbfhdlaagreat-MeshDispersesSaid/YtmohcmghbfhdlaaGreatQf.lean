/- Chapter 6: dispersions (the program's). -/
import Derived.Test.YtmohcmghbfhdlaaGreatQd
import Derived.Test.YtmohcmghbfhdlaaGreatQe
import Derived.Shelf.Bits.Mul64
section
set_option linter.unusedSimpArgs false
set_option linter.unusedVariables false
section
namespace Go.Me
open Go.Ab
def numC (n : Int) : List Value := [.int .i64 n]
def flatN (l : List Int) : List Value := l.map fun n => .int .i64 n
def nt (l : List Int) (k : Nat) : Int := l.getD k 0
theorem flatN_flat (l : List Int) : l.flatMap numC = flatN l := by
 induction l with
 | nil => rfl
 | cons a l ih => rw [List.flatMap_cons, ih]; rfl
theorem flatN_scal (l : List Int) : (flatN l).all Ab.scal = true := by
 rw [← flatN_flat]
 exact Ls.flat_scal numC (fun _ => rfl) l
theorem flatN_get (l : List Int) (k : Nat) (hk : k < l.length) : (flatN l)[k]? = some (.int .i64 (nt l k)) := by
 unfold flatN nt
 rw [List.getElem?_map, List.getElem?_eq_getElem hk, List.getD_eq_getElem?_getD, List.getElem?_eq_getElem hk]
 rfl
def dsS (l : List Int) : Nat → Int
 | 0 => 0
 | k + 1 => dsS l k + nt l k
def dsQ (l : List Int) : Nat → Int
 | 0 => 0
 | k + 1 => dsQ l k + nt l k * nt l k
def dsOk (l : List Int) : Bool := decide (∀ k, k < l.length → 0 ≤ nt l k ∧ nt l k ≤ 3000)
def dsE (l : List Int) : Int := if l.length < 2 then 10 else if 60 < l.length then 8 else if dsOk l = true then (if dsS l l.length = 0 then 11 else 0) else 2
def dsN (l : List Int) : Int := l.length * dsQ l l.length - dsS l l.length * dsS l l.length
def dsD (l : List Int) : Int := dsS l l.length * dsS l l.length
def dsA (l : List Int) : Int := if dsE l = 0 then (dsN l).tdiv (Int.gcd (dsN l) (dsD l)) else 0
def dsB (l : List Int) : Int := if dsE l = 0 then (dsD l).tdiv (Int.gcd (dsN l) (dsD l)) else 0
theorem sq_nn (a : Int) : 0 ≤ a * a := by
 rcases Int.le_total 0 a with h | h
 ·exact Int.mul_nonneg h h
 ·have := Int.mul_nonneg (a := -a) (b := -a) (by omega) (by omega)
  rwa [Int.neg_mul_neg] at this
theorem ds_var (l : List Int) (a : Int) : ∀ k : Nat, 0 ≤ dsQ l k - 2 * (a * dsS l k) + k * (a * a) := by
 intro k
 induction k with
 | zero => simp [dsQ, dsS]
 | succ k ih =>
  have := sq_nn (nt l k - a)
  unfold dsQ dsS
  have e : dsQ l k + nt l k * nt l k - 2 * (a * (dsS l k + nt l k)) + ((k + 1 : Nat) : Int) * (a * a) = (dsQ l k - 2 * (a * dsS l k) + k * (a * a)) + (nt l k - a) * (nt l k - a) := by
   rw [Int.natCast_add]
   grind
  omega
theorem ds_nn (l : List Int) : ∀ k : Nat, 0 ≤ k * dsQ l k - dsS l k * dsS l k := by
 intro k
 induction k with
 | zero => simp [dsQ, dsS]
 | succ k ih =>
  have := ds_var l (nt l k) k
  unfold dsQ dsS
  have e : ((k + 1 : Nat) : Int) * (dsQ l k + nt l k * nt l k) - (dsS l k + nt l k) * (dsS l k + nt l k) = (k * dsQ l k - dsS l k * dsS l k) + (dsQ l k - 2 * (nt l k * dsS l k) + k * (nt l k * nt l k)) := by
   rw [Int.natCast_add]
   grind
  omega
theorem ds_bd {l : List Int} : ∀ k : Nat, (∀ j, j < k → 0 ≤ nt l j ∧ nt l j ≤ 3000) → (0 ≤ dsS l k ∧ dsS l k ≤ 3000 * k) ∧ 0 ≤ dsQ l k ∧ dsQ l k ≤ 9000000 * k := by
 intro k
 induction k with
 | zero => intro _; simp [dsQ, dsS]
 | succ k ih =>
  intro h
  obtain ⟨h1, h2⟩ := ih (fun j hj => h j (by omega))
  have h3 := h k (by omega)
  have h4 := sq_nn (nt l k)
  have h5 := mul_bd (m := nt l k) (n := nt l k) (a := 3000) (b := 3000) (by omega) (by omega) (by decide)
  unfold dsQ dsS
  omega
theorem gcd_step (a b : Int) : Int.gcd b (a.tmod b) = Int.gcd a b := by
 unfold Int.gcd
 rw [Int.natAbs_tmod, Nat.gcd_comm b.natAbs, ← Nat.gcd_rec, Nat.gcd_comm]
theorem natAbs_tmod_lt {a b : Int} (h : b ≠ 0) : (a.tmod b).natAbs < b.natAbs := by
 rw [Int.natAbs_tmod]
 exact Nat.mod_lt _ (by omega)
theorem gtmod_bd {a b M : Int} (ha : 0 ≤ a ∧ a ≤ M) : 0 ≤ a.tmod b ∧ a.tmod b ≤ M := by
 have h1 : (a.tmod b).natAbs ≤ a.natAbs := by rw [Int.natAbs_tmod]; exact Nat.mod_le _ _
 have h2 := Int.tmod_nonneg b ha.1
 omega
theorem gtdiv_bd {a b M : Int} (ha : -M ≤ a ∧ a ≤ M) : -M ≤ a.tdiv b ∧ a.tdiv b ≤ M := by
 have h1 : (a.tdiv b).natAbs ≤ a.natAbs := by rw [Int.natAbs_tdiv]; exact Nat.div_le_self _ _
 omega
end Go.Me
namespace Go.Proofs.YtmohcmghbfhdlaaGreat
open Go Go.RowKit Go.Ab Go.Me
set_option maxRecDepth 100000
set_option maxHeartbeats 4000000
attribute [local irreducible] OQ OW AL AW AF SW
theorem divisor_q (a b : Int) (ha : 0 ≤ a ∧ a ≤ 9000000000000000000) (hb : 0 ≤ b ∧ b ≤ 9000000000000000000) (m : Mem) : PCalls Tryz.prog 95 [.int .i64 a, .int .i64 b] m (.int .i64 (Int.gcd a b)) := by
 refine PCalls.any ?_ rfl rfl m
 refine PCalls.en 10 Tryz.func95 rfl (ro_nil) rfl (fun E => ?_)
 repeat' (first | with_reducible (first | refine Then.n ?_ | refine Then.x ?_ | refine InB.n ?_ | refine InB.hit ?_) | ((with_reducible refine AL.on ?_); first | ((first | refine AL.mv ?_ | refine AL.as ?_ | ((with_reducible refine AL.k_binOp ?_); refine AL.g (OQ.neq rfl rfl) ?_)); refine AL.nm ?_) | refine AL.nil ?_) | ((with_reducible refine AW.on ?_); first | refine AW.seq ?_ | refine AW.skip ?_ | refine AW.exit ?_ | refine AW.ret ?_ | ((refine AW.block (id := 0) ?_); (refine AW.fk [0, 1] ?_); (refine AW.loop (fun n t m => ∃ x y : Int, n = y.natAbs ∧ (0 ≤ x ∧ x ≤ 9000000000000000000) ∧ (0 ≤ y ∧ y ≤ 9000000000000000000) ∧ Int.gcd x y = Int.gcd a b ∧ t = (mtz 12 0 [(0, .int .i64 x), (1, .int .i64 y)]) ∧ m = []) (b.natAbs) (by exact ⟨a, b, rfl, ha, hb, rfl, rfl, rfl⟩) ?_); (rintro n t m ⟨x, y, rfl, hx, hy, hg, rfl, rfl⟩); (refine AW.nT ?_)) | refine AW.block ?_ | (refine AW.drawF (id := 2) 5 #[0, 0, 0, 6, 3, 31] kr kr ?_; (conv => (arg 8; simp only [List.take_succ_cons, List.take_zero]))) | refine AW.region ?_ | (refine AW.conds rfl (fun hc => ?_) (fun hc => ?_) <;> (try replace hc := nc hc) <;> skip)) | ((with_reducible refine AF.on ?_); first | ((first | ((with_reducible refine AF.k_move ?_); (refine AF.q 0 (SW.q (OQ.move wl) rfl) ?_)) | ((with_reducible refine AF.k_assign ?_); (refine AF.q 0 (SW.q (OQ.assign wl) rfl) ?_)) | ((with_reducible refine AF.k_binOp ?_); refine AF.q 0 (SW.q (OQ.rem rfl rfl (by omega)) rfl) ?_)); refine AF.nm ?_) | refine AF.nl ?_) | ((with_reducible refine ex_on ?_); exact ⟨_, _, _, natAbs_tmod_lt ‹¬ y = 0›, Wk.fk [0, 1] rfl, y, x.tmod y, rfl, hy, gtmod_bd hx, (gcd_step x y).trans hg, rfl, rfl⟩) | ((with_reducible refine FinP.on ?_); (refine FinP.ret (.tmp wl .nil) ?_ rfl); (try simp only [pack, List.drop, List.take]); all_goals (congr 1; rw [← hg, ‹y = 0›]; simp; try omega)))
theorem rgB_true {n lo hi : Int} : rgB n lo hi = true ↔ lo ≤ n ∧ n ≤ hi := by
 unfold rgB
 exact decide_eq_true_iff
theorem ds_bds {l : List Int} {k : Nat} (hk : k ≤ 60) (h : ∀ j, j < k → rgB (nt l j) 0 3000 = true) :
  (0 ≤ dsS l k ∧ dsS l k ≤ 180000) ∧ (0 ≤ dsQ l k ∧ dsQ l k ≤ 540000000) ∧ (0 ≤ k * dsQ l k ∧ k * dsQ l k ≤ 32400000000) ∧ (0 ≤ dsS l k * dsS l k ∧ dsS l k * dsS l k ≤ 32400000000) ∧ 0 ≤ k * dsQ l k - dsS l k * dsS l k := by
 obtain ⟨h1, h2⟩ := ds_bd (l := l) k (fun j hj => rgB_true.1 (h j hj))
 have h3 := sq_nn (dsS l k)
 have h4 := mul_bd (m := dsS l k) (n := dsS l k) (a := 180000) (b := 180000) (by omega) (by omega) (by decide)
 have h5 := mul_bd (m := (k : Int)) (n := dsQ l k) (a := 60) (b := 540000000) (by omega) (by omega) (by decide)
 have h6 := ds_nn l k
 omega
def dsV (l : List Int) : Value := .tuple #[.agg #[.int .i64 (dsA l), .int .i64 (dsB l)], .int .i64 (dsE l)]
theorem dsV_e {l : List Int} {e : Int} (h : dsE l = e) (h0 : e ≠ 0) : dsV l = .tuple #[.agg #[.int .i64 0, .int .i64 0], .int .i64 e] := by
 unfold dsV dsA dsB
 rw [h, if_neg h0, if_neg h0]
theorem dsOk_true {l : List Int} (h : ∀ j, j < l.length → rgB (nt l j) 0 3000 = true) : dsOk l = true := by
 unfold dsOk
 exact decide_eq_true fun k hk => rgB_true.1 (h k hk)
theorem Dispersion_0 (l : List Int) (c z : Nat) (hl : l.length ≤ 1000000) : PCalls Tryz.prog 48 [.slice (some ⟨0, 0, none⟩) l.length c] [some ⟨flatN l, false, z⟩] (dsV l) := by
 have hld := fun (k : Nat) (hk : k < l.length) => flatN_get l k hk
 have hw := fun (n : Int) (m : Mem) => within_q n 0 3000 m
 have hlo : l.length < 2 → dsV l = .tuple #[.agg #[.int .i64 0, .int .i64 0], .int .i64 10] := fun h => dsV_e (by unfold dsE; rw [if_pos h]) (by decide)
 have hhi : 60 < l.length → dsV l = .tuple #[.agg #[.int .i64 0, .int .i64 0], .int .i64 8] := fun h => dsV_e (by unfold dsE; rw [if_neg (by omega), if_pos h]) (by decide)
 have hrg : ∀ k, ¬ l.length < 2 → ¬ 60 < l.length → k < l.length → rgB (nt l k) 0 3000 = false → dsV l = .tuple #[.agg #[.int .i64 0, .int .i64 0], .int .i64 2] := fun k h1 h2 hk h => dsV_e (by
  unfold dsE
  rw [if_neg h1, if_neg h2, if_neg]
  intro ho
  have h3 := of_decide_eq_true ho k hk
  rw [rgB_true.2 h3] at h
  cases h) (by decide)
 have hze : ¬ l.length < 2 → ¬ 60 < l.length → (∀ j, j < l.length → rgB (nt l j) 0 3000 = true) → dsS l l.length = 0 → dsV l = .tuple #[.agg #[.int .i64 0, .int .i64 0], .int .i64 11] := fun h1 h2 h3 h4 => dsV_e (by unfold dsE; rw [if_neg h1, if_neg h2, if_pos (dsOk_true h3), if_pos h4]) (by decide)
 have hok : ¬ l.length < 2 → ¬ 60 < l.length → (∀ j, j < l.length → rgB (nt l j) 0 3000 = true) → dsS l l.length ≠ 0 → dsV l = .tuple #[.agg #[.int .i64 ((l.length * dsQ l l.length - dsS l l.length * dsS l l.length).tdiv (Int.gcd (l.length * dsQ l l.length - dsS l l.length * dsS l l.length) (dsS l l.length * dsS l l.length))), .int .i64 ((dsS l l.length * dsS l l.length).tdiv (Int.gcd (l.length * dsQ l l.length - dsS l l.length * dsS l l.length) (dsS l l.length * dsS l l.length)))], .int .i64 0] := fun h1 h2 h3 h4 => by
  have he : dsE l = 0 := by unfold dsE; rw [if_neg h1, if_neg h2, if_pos (dsOk_true h3), if_neg h4]
  unfold dsV dsA dsB
  rw [he, if_pos rfl, if_pos rfl]
  rfl
 have hbd := fun (k : Nat) => ds_bds (l := l) (k := k)
 have hv := fun (k : Nat) (h : rgB (nt l k) 0 3000 = true) => rgB_true.1 h
 have s0 : dsS l 0 = 0 := rfl
 have q0 : dsQ l 0 = 0 := rfl
 have ss : ∀ k, dsS l (k + 1) = dsS l k + nt l k := fun k => rfl
 have qs : ∀ k, dsQ l (k + 1) = dsQ l k + nt l k * nt l k := fun k => rfl
 have hsq : ∀ a : Int, 0 ≤ a ∧ a ≤ 3000 → 0 ≤ a * a ∧ a * a ≤ 9000000 := fun a ha => ⟨sq_nn a, (mul_bd (m := a) (n := a) (a := 3000) (b := 3000) (by omega) (by omega) (by decide)).2⟩
 have hnz : dsS l l.length ≠ 0 → dsS l l.length * dsS l l.length ≠ 0 := fun h h2 => by rcases Int.mul_eq_zero.1 h2 with h3 | h3 <;> exact h h3
 have hold : oldv3 [some ⟨flatN l, false, z⟩] (dsV l) = true := rfl
 generalize dsS l = S at *
 generalize dsQ l = Q at *
 generalize dsV l = V at *
 refine PCalls.en 63 Tryz.func48 rfl (ro1p _ rfl) rfl (fun E => ?_)
 repeat' (first | with_reducible (first | refine Then.n ?_ | refine Then.r ?_ | refine Then.x ?_ | refine InB.n ?_ | refine InB.r ?_ | refine InB.hit ?_) | ((with_reducible refine AL.on ?_); first | ((first | refine AL.mv ?_ | refine AL.as ?_ | ((with_reducible refine AL.k_binOp ?_); first | refine AL.g (OQ.lss rfl rfl) ?_ | refine AL.g (OQ.gtr rfl rfl) ?_ | refine AL.g (OQ.addi rfl rfl (by omega)) ?_ | refine AL.g (OQ.muli rfl rfl (by omega)) ?_ | refine AL.g (OQ.eql rfl rfl) ?_ | refine AL.g (OQ.subi rfl rfl (by omega)) ?_) | ((with_reducible refine AL.k_call ?_); refine AL.g (OQ.lenS (xt := 26) (r := (none, 1, false)) rfl kr) ?_) | ((with_reducible refine AL.k_load ?_); (refine AL.g (OQ.load1 (ty := 3) rfl kr (by (exact hld _ (by omega)))) ?_)) | ((with_reducible refine AL.k_unOp ?_); refine AL.g (OQ.not rfl) ?_)); refine AL.nm ?_) | ((first | ((with_reducible refine AL.k_build ?_); refine AL.g (OQ.buildA (ty := 52) (zs := [.int .i64 0, .int .i64 0]) (n := 1) (k := 2) (g := false) kr rfl kr rfl rfl rfl) ?_) | ((with_reducible refine AL.k_call ?_); first | refine AL.pcall (g := 89) rfl kr rfl (hw _ _) ?_ | refine AL.pcall (g := 95) rfl kr rfl (divisor_q _ _ (by omega) (by omega) _) ?_) | ((with_reducible refine AL.k_indexAddr ?_); refine AL.g (OQ.idxAddr (ty := 26) (z := 1) (g := false) rfl rfl kr (by omega) (by omega)) ?_)); refine AL.nm ?_) | ((first | ((with_reducible refine AL.k_store ?_); (refine AL.w rfl (OW.store (ty := 52) (n := 2) rfl wl rfl rfl kr rfl rfl (by decide) rfl (Nat.le_of_ble_eq_true rfl) (by intro r h; cases h)) ?_)) | ((with_reducible refine AL.k_alloc ?_); refine AL.w rfl (OW.alloc (ty := 52) (z := [.int .i64 0, .int .i64 0]) kr rfl) ?_)); refine AL.nm ?_; refine AL.nM ?_) | refine AL.nil ?_) | ((with_reducible refine AW.on ?_); first | refine AW.seq ?_ | refine AW.skip ?_ | refine AW.exit ?_ | refine AW.ret ?_ | ((refine AW.block (id := 1) ?_); (refine AW.fk [2, 4, 5, 6, 22, 23, 24] ?_); (refine AW.loop (fun n t' m => ∃ k : Nat, n = l.length - k ∧ k ≤ l.length ∧ (∀ j, j < k → rgB (nt l j) 0 3000 = true) ∧ t' = (mtz 64 0 [(2, .pointer (some ⟨1, 0, none⟩)), (4, .int .i64 (l.length)), (5, .int .i64 (S k)), (6, .int .i64 (Q k)), (22, .slice (some ⟨0, 0, none⟩) l.length c), (23, .int .i64 (l.length)), (24, .int .i64 (k))]) ∧ m = [some ⟨flatN l, false, z⟩, some ⟨[.int .i64 (0), .int .i64 (0)], true, 0⟩]) (l.length) (by exact ⟨0, rfl, Nat.zero_le _, fun j h => absurd h (by omega), by rw [s0, q0]; rfl, rfl⟩) ?_); (rintro n t' m ⟨k, rfl, hk, hj, rfl, rfl⟩); (refine AW.nT ?_)) | refine AW.block ?_ | (refine AW.drawF (id := 18) 6 #[0, 0, 3, 0, 0, 24, 63, 127, 255] kr kr ?_; (conv => (arg 8; simp only [List.take_succ_cons, List.take_zero])); ((have hg1 : 0 < (Int.gcd (l.length * Q l.length - S l.length * S l.length) (S l.length * S l.length) : Int) := (by have := Int.gcd_pos_of_ne_zero_right (l.length * Q l.length - S l.length * S l.length) (hnz ‹_›); omega); have hg2 := gtdiv_bd (a := l.length * Q l.length - S l.length * S l.length) (b := (Int.gcd (l.length * Q l.length - S l.length * S l.length) (S l.length * S l.length) : Int)) (M := 32400000000) (by omega); have hg3 := gtdiv_bd (a := S l.length * S l.length) (b := (Int.gcd (l.length * Q l.length - S l.length * S l.length) (S l.length * S l.length) : Int)) (M := 32400000000) (by omega)))) | (refine AW.region (id := 12) ?_; ((have hb := hbd k (by omega) hj; have hv1 := hv k (by assumption); have hv2 := hsq _ hv1))) | (refine AW.region (id := 14) ?_; ((obtain rfl : k = l.length := (by omega); have hb := hbd _ (by omega) hj))) | refine AW.region ?_ | (refine AW.conds rfl (fun hc => ?_) (fun hc => ?_) <;> (try replace hc := nc hc) <;> skip)) | ((with_reducible refine AF.on ?_); first | ((first | ((with_reducible refine AF.k_move ?_); (refine AF.q 0 (SW.q (OQ.move wl) rfl) ?_)) | ((with_reducible refine AF.k_binOp ?_); refine AF.q 0 (SW.q (OQ.quoi rfl rfl (by omega) (by omega)) rfl) ?_)); refine AF.nm ?_) | refine AF.nl ?_) | ((with_reducible refine ex_on ?_); (refine ⟨l.length - (k + 1), _, _, by omega, ?_, k + 1, rfl, by omega, fun j h => (by rcases Nat.lt_or_eq_of_le (Nat.le_of_lt_succ h) with h | rfl; (exact hj j h); (assumption)), rfl, rfl⟩; rw [ss k, qs k]; exact Wk.fk [2, 4, 5, 6, 22, 23, 24] rfl)) | ((with_reducible refine FinP.on ?_); (refine FinP.ret (.cellN (n := 2) wl kr kr rfl (.tmp wl .nil)) ?_ hold); (try simp only [pack, List.drop, List.take]); all_goals (symm; first | exact hlo (by omega) | exact hhi (by omega) | exact hze (by omega) (by omega) hj ‹_› | exact hok (by omega) (by omega) hj ‹_› | exact hrg k (by omega) (by omega) (by omega) (by assumption))))
theorem Dispersion_q {m : Mem} {b n c : Nat} {blk : Blk} (l : List Int) (hb : m.at b = some blk) (hc : blk.cells = flatN l) (hn : l.length = n) (hl : l.length ≤ 1000000) (ho : blk.obj = Ob.plain := by rfl) : PCalls Tryz.prog 48 [.slice (some ⟨b, 0, none⟩) n c] m (dsV l) := by
 subst hn
 exact PCalls.viaS [b] (Dispersion_0 l c blk.esz hl) (ro1p _ rfl) ⟨bS hb ho hc (flatN_scal _), trivial⟩ rfl rfl rfl rfl
theorem dsV_9 : dsV [9, 12] = .tuple #[.agg #[.int .i64 1, .int .i64 49], .int .i64 0] := by
 have h1 : dsA [9, 12] = 1 := by decide +kernel
 have h2 : dsB [9, 12] = 49 := by decide +kernel
 have h3 : dsE [9, 12] = 0 := by decide +kernel
 unfold dsV
 rw [h1, h2, h3]
end Go.Proofs.YtmohcmghbfhdlaaGreat
end
end
/- MeshDisperses: greatest common divisors of any numbers, products of words, fractions compared. -/
section
set_option linter.unusedSimpArgs false
set_option linter.unusedVariables false
section
namespace Go.Me
open Go.Ab
def dvI (a b : Int) : Int := if h : b = 0 then a else dvI b (a.tmod b)
termination_by b.natAbs
decreasing_by exact natAbs_tmod_lt h
theorem dvI_0 (a : Int) : dvI a 0 = a := by
 rw [dvI, dif_pos rfl]
theorem dvI_s {a b : Int} (h : b ≠ 0) : dvI b (a.tmod b) = dvI a b := by
 rw [dvI.eq_1 a b, dif_neg h]
theorem dvI_gcd : ∀ (n : Nat) (a b : Int), b.natAbs ≤ n → (dvI a b).natAbs = Int.gcd a b := by
 intro n
 induction n with
 | zero =>
  intro a b h
  obtain rfl : b = 0 := by omega
  rw [dvI_0, Int.gcd_zero]
 | succ n ih =>
  intro a b h
  by_cases h0 : b = 0
  ·rw [h0, dvI_0, Int.gcd_zero]
  ·have := natAbs_tmod_lt (a := a) h0
   rw [← dvI_s h0, ih b (a.tmod b) (by omega), gcd_step]
theorem gmod_bd {a b : Int} (ha : -9223372036854775808 ≤ a ∧ a ≤ 9223372036854775807) (hb : -9223372036854775808 ≤ b ∧ b ≤ 9223372036854775807) : -9223372036854775808 ≤ a.tmod b ∧ a.tmod b ≤ 9223372036854775807 := by
 by_cases h0 : b = 0
 ·rw [h0, Int.tmod_zero]
  exact ha
 ·have := natAbs_tmod_lt (a := a) h0
  omega
def cpF (n d m k : Int) : Int := if n * k < m * d then -1 else if m * d < n * k then 1 else 0
theorem cpF_lt {n d m k : Int} (hd : 0 < d) (hk : 0 < k) (h : n / d < m / k) : cpF n d m k = -1 := by
 refine if_pos ?_
 have h1 := Int.lt_mul_of_ediv_lt hd (show n / d < n / d + 1 by omega)
 have h2 : m / k * k ≤ m := Int.ediv_mul_le m (by omega)
 have h3 : n * k < (n / d + 1) * d * k := Int.mul_lt_mul_of_pos_right h1 hk
 have h4 : (m / k * k) * d ≤ m * d := Int.mul_le_mul_of_nonneg_right h2 (by omega)
 have h5 : (n / d + 1) * (d * k) ≤ (m / k) * (d * k) := Int.mul_le_mul_of_nonneg_right (by omega) (Int.le_of_lt (Int.mul_pos hd hk))
 have e1 : (n / d + 1) * d * k = (n / d + 1) * (d * k) := Int.mul_assoc _ _ _
 have e2 : (m / k * k) * d = (m / k) * (d * k) := by rw [Int.mul_assoc, Int.mul_comm k d]
 omega
theorem cpF_neg (n d m k : Int) : cpF n d m k = - cpF m k n d := by
 unfold cpF
 split <;> split <;> (try split) <;> omega
theorem cpF_gt {n d m k : Int} (hd : 0 < d) (hk : 0 < k) (h : m / k < n / d) : cpF n d m k = 1 := by
 rw [cpF_neg, cpF_lt hk hd h]
 rfl
theorem cpF_sub (n d m k p : Int) : cpF (n - p * d) d (m - p * k) k = cpF n d m k := by
 have e1 : (n - p * d) * k = n * k - p * d * k := Int.sub_mul _ _ _
 have e2 : (m - p * k) * d = m * d - p * k * d := Int.sub_mul _ _ _
 have e3 : p * k * d = p * d * k := by rw [Int.mul_assoc, Int.mul_comm k d, ← Int.mul_assoc]
 unfold cpF
 rw [e1, e2, e3]
 generalize p * d * k = x
 split <;> split <;> (try split) <;> (try split) <;> omega
theorem cpF_rec (n d m k : Int) : cpF k m d n = cpF n d m k := by
 unfold cpF
 rw [Int.mul_comm k n, Int.mul_comm d m]
theorem cpF_le {n d m k : Int} : (cpF n d m k ≤ 0) = (n * k ≤ m * d) := by
 unfold cpF
 apply propext
 split <;> (try split) <;> omega
end Go.Me
namespace Go.Proofs.YtmohcmghbfhdlaaGreat
open Go Go.RowKit Go.Ab Go.Me
set_option maxRecDepth 100000
set_option maxHeartbeats 4000000
def laysM_ren : Go.Shelf.Ren := ⟨fun | 264 => 139 | n => n, fun | 53 => 179 | 46 => 187 | n => n, fun | n => n⟩
theorem laysM : Go.Proofs.Lays.n264 Tryz.prog laysM_ren := {
 mixed := by kernel_rfl
 f264 := Tryz.func139.trans (congrArg some (by kernel_rfl))
 t46 := Tryz.underlying187
 a46 := Tryz.isAgg187
 z46 := Tryz.sizeOf187
 v46 := Tryz.zeroValue187
 t53 := Tryz.underlying179
 a53 := Tryz.isAgg179
 z53 := Tryz.sizeOf179
 v53 := Tryz.zeroValue179 }
theorem Mul64_q (x y : Int) (hx : 0 ≤ x ∧ x ≤ 9223372036854775807) (hy : 0 ≤ y ∧ y ≤ 9223372036854775807) (m : Mem) : PCalls Tryz.prog 139 [.int .u64 (IntKind.u64.wrap x), .int .u64 (IntKind.u64.wrap y)] m (.tuple #[.int .u64 (x * y / 18446744073709551616), .int .u64 (x * y % 18446744073709551616)]) := by
 obtain ⟨a, rfl⟩ := Int.eq_ofNat_of_zero_le hx.1
 obtain ⟨b, rfl⟩ := Int.eq_ofNat_of_zero_le hy.1
 have e : ∀ c : Nat, (c : Int) ≤ 9223372036854775807 → IntKind.u64.wrap (c : Int) = c := fun c hc => by rw [IntKind.wrap_u64]; omega
 rw [e a hx.2, e b hy.2]
 refine PCalls.of_same rfl rfl fun w => ?_
 have h := Any.bits_Mul64 laysM a b (by omega) (by omega) w
 refine h.mono fun e w' h => ⟨?_, h.2.symm⟩
 rw [h.1]
 rfl
attribute [local irreducible] OQ OW AL AW AF SW
theorem atMost_q (a b c d : Int) (ha : 0 ≤ a ∧ a ≤ 9223372036854775807) (hb : 0 ≤ b ∧ b ≤ 9223372036854775807) (hc : 0 ≤ c ∧ c ≤ 9223372036854775807) (hd : 0 ≤ d ∧ d ≤ 9223372036854775807) (m : Mem) : PCalls Tryz.prog 99 [.int .i64 a, .int .i64 b, .int .i64 c, .int .i64 d] m (.bool (decide (a * d ≤ c * b))) := by
 have h1 := Mul64_q a d ha hd
 have h2 := Mul64_q c b hc hb
 have h3 := Int.mul_nonneg ha.1 hd.1
 have h4 := Int.mul_nonneg hc.1 hb.1
 generalize a * d = x at *
 generalize c * b = y at *
 refine PCalls.any ?_ rfl rfl m
 refine PCalls.en 38 Tryz.func99 rfl (ro_nil) rfl (fun E => ?_)
 repeat' (first | with_reducible (first | refine Then.n ?_ | refine Then.r ?_ | refine Then.x ?_ | refine InB.n ?_ | refine InB.r ?_ | refine InB.hit ?_ | refine InB.miss (by decide) ?_) | ((with_reducible refine AL.on ?_); first | (refine AL.gd rfl ?_; first | (refine AL.gskip rfl rfl ?_; refine AL.nm ?_) | (refine AL.gs1 rfl rfl (fun hc => ?_) (fun hc => ?_) <;> (try replace hc := nc hc) <;> first | (exfalso; contradiction; done) | refine AL.nm ?_) | (refine AL.gs0 rfl rfl (fun hc => ?_) (fun hc => ?_) <;> (try replace hc := nc hc) <;> first | (exfalso; contradiction; done) | refine AL.nm ?_)) | ((first | ((with_reducible refine AL.k_move ?_); first | refine AL.mv ?_) | ((with_reducible refine AL.k_assign ?_); first | refine AL.as ?_) | ((with_reducible refine AL.k_extract ?_); first | refine AL.et ?_) | ((with_reducible refine AL.k_binOp ?_); first | refine AL.g (OQ.lss rfl rfl) ?_ | refine AL.g (OQ.eql rfl rfl) ?_ | refine AL.g (OQ.leq rfl rfl) ?_) | ((with_reducible refine AL.k_pick ?_); first | refine AL.pT ?_ | refine AL.pF ?_) | refine AL.g (OQ.conv rfl Tryz.underlying3 Tryz.underlying179) ?_); refine AL.nm ?_) | ((first | first | refine AL.pcall (g := 139) rfl kr rfl ((by first | exact h1 _ | exact h2 _)) ?_); refine AL.nm ?_) | (refine AL.bs rfl (fun hc => ?_) (fun hc => ?_) <;> (fail_if_success (with_reducible exact lit_no hc)) <;> (try replace hc := nc hc) <;> first | (exfalso; contradiction; done) | refine AL.nm ?_) | refine AL.nil ?_) | ((with_reducible refine AW.on ?_); first | refine AW.seq ?_ | refine AW.skip ?_ | refine AW.exit ?_ | refine AW.ret ?_ | refine AW.block ?_ | refine AW.region ?_ | (refine AW.conds rfl (fun hc => ?_) (fun hc => ?_) <;> (try replace hc := nc hc) <;> first | (exfalso; contradiction; done) | skip)) | ((with_reducible refine FinP.on ?_); (first | refine FinP.ret (.tmp wl .nil) ?_ rfl | refine FinP.end (.tmp wl .nil) ?_ rfl); (try simp only [pack, List.drop, List.take]); all_goals (first | (rw [decide_eq_true (by omega)]) | (rw [decide_eq_false (by omega)]) | (congr 1; apply decide_eq_decide.2; omega))))
theorem divisor_g (a b : Int) (ha : -9223372036854775808 ≤ a ∧ a ≤ 9223372036854775807) (hb : -9223372036854775808 ≤ b ∧ b ≤ 9223372036854775807) (m : Mem) : PCalls Tryz.prog 95 [.int .i64 a, .int .i64 b] m (.int .i64 (dvI a b)) := by
 refine PCalls.any ?_ rfl rfl m
 refine PCalls.en 10 Tryz.func95 rfl (ro_nil) rfl (fun E => ?_)
 repeat' (first | with_reducible (first | refine Then.n ?_ | refine Then.r ?_ | refine Then.x ?_ | refine InB.n ?_ | refine InB.r ?_ | refine InB.hit ?_ | refine InB.miss (by decide) ?_) | ((with_reducible refine AL.on ?_); first | ((first | ((with_reducible refine AL.k_move ?_); first | refine AL.mv ?_) | ((with_reducible refine AL.k_assign ?_); first | refine AL.as ?_) | ((with_reducible refine AL.k_binOp ?_); first | refine AL.g (OQ.neq rfl rfl) ?_)); refine AL.nm ?_) | refine AL.nil ?_) | ((with_reducible refine AW.on ?_); first | refine AW.seq ?_ | refine AW.skip ?_ | refine AW.exit ?_ | refine AW.ret ?_ | ((refine AW.block (id := 0) ?_); (refine AW.fk [0, 1] ?_); (refine AW.loop (fun n t m => ∃ x y : Int, n = y.natAbs ∧ (-9223372036854775808 ≤ x ∧ x ≤ 9223372036854775807) ∧ (-9223372036854775808 ≤ y ∧ y ≤ 9223372036854775807) ∧ dvI x y = dvI a b ∧ t = (mtz 12 0 [(0, .int .i64 x), (1, .int .i64 y)]) ∧ m = []) (b.natAbs) (by exact ⟨a, b, rfl, ha, hb, rfl, rfl, rfl⟩) ?_); (rintro n t m ⟨x, y, rfl, hx, hy, hg, rfl, rfl⟩); (refine AW.nT ?_)) | refine AW.block ?_ | (refine AW.drawF (id := 2) 5 #[0, 0, 0, 6, 3, 31] kr kr ?_; (conv => (arg 8; simp only [List.take_succ_cons, List.take_zero]))) | refine AW.region ?_ | (refine AW.conds rfl (fun hc => ?_) (fun hc => ?_) <;> (try replace hc := nc hc) <;> first | (exfalso; first | contradiction | (omega); done) | skip)) | ((with_reducible refine AF.on ?_); first | ((first | ((with_reducible refine AF.k_move ?_); first | (refine AF.q 0 (SW.q (OQ.move wl) rfl) ?_)) | ((with_reducible refine AF.k_assign ?_); first | (refine AF.q 0 (SW.q (OQ.assign wl) rfl) ?_)) | ((with_reducible refine AF.k_binOp ?_); first | refine AF.q 0 (SW.q (OQ.rem rfl rfl (by omega)) rfl) ?_)); refine AF.nm ?_) | refine AF.nl ?_) | ((with_reducible refine ex_on ?_); exact ⟨_, _, _, natAbs_tmod_lt ‹¬ y = 0›, Wk.fk [0, 1] rfl, y, x.tmod y, rfl, hy, gmod_bd hx hy, (dvI_s ‹¬ y = 0›).trans hg, rfl, rfl⟩) | ((with_reducible refine FinP.on ?_); (first | refine FinP.ret (.tmp wl .nil) ?_ rfl | refine FinP.end (.tmp wl .nil) ?_ rfl); (try simp only [pack, List.drop, List.take]); all_goals (congr 1; rw [← hg, ‹y = 0›, dvI_0])))
theorem rSize_g (a : Int) (ha : -9223372036854775807 ≤ a ∧ a ≤ 9223372036854775807) (m : Mem) : PCalls Tryz.prog 93 [.int .i64 a] m (.int .i64 (a.natAbs : Int)) := by
 refine PCalls.any ?_ rfl rfl m
 refine PCalls.en 6 Tryz.func93 rfl (ro_nil) rfl (fun E => ?_)
 repeat' (first | with_reducible (first | refine Then.n ?_ | refine Then.r ?_ | refine Then.x ?_ | refine InB.n ?_ | refine InB.r ?_ | refine InB.hit ?_ | refine InB.miss (by decide) ?_) | ((with_reducible refine AL.on ?_); first | ((first | ((with_reducible refine AL.k_assign ?_); first | refine AL.as ?_) | ((with_reducible refine AL.k_move ?_); first | refine AL.mv ?_) | ((with_reducible refine AL.k_unOp ?_); first | refine AL.g (OQ.negi rfl (by omega)) ?_ | refine AL.g (OQ.neg rfl) ?_) | ((with_reducible refine AL.k_call ?_); first | refine AL.g (OQ.max2 rfl rfl) ?_)); refine AL.nm ?_) | refine AL.nil ?_) | ((with_reducible refine AW.on ?_); first | refine AW.seq ?_ | refine AW.skip ?_ | refine AW.exit ?_ | refine AW.ret ?_ | refine AW.block ?_ | refine AW.region ?_ | (refine AW.conds rfl (fun hc => ?_) (fun hc => ?_) <;> (try replace hc := nc hc) <;> first | (exfalso; first | contradiction | (omega); done) | skip)) | ((with_reducible refine FinP.on ?_); (first | refine FinP.ret (.tmp wl .nil) ?_ rfl | refine FinP.end (.tmp wl .nil) ?_ rfl); (try simp only [pack, List.drop, List.take]); all_goals (refine congrArg _ ?_; split <;> omega)))
theorem rGcd_q (a b : Int) (ha : -9223372036854775808 ≤ a ∧ a ≤ 9223372036854775807) (hb : -9223372036854775808 ≤ b ∧ b ≤ 9223372036854775807) (hg : Int.gcd a b ≤ 9223372036854775807) (m : Mem) : PCalls Tryz.prog 96 [.int .i64 a, .int .i64 b] m (.int .i64 (Int.gcd a b)) := by
 refine PCalls.any ?_ rfl rfl m
 refine PCalls.en 11 Tryz.func96 rfl (ro_nil) rfl (fun E => ?_)
 repeat' (first | with_reducible (first | refine Then.n ?_ | refine Then.r ?_ | refine Then.x ?_ | refine InB.n ?_ | refine InB.r ?_ | refine InB.hit ?_ | refine InB.miss (by decide) ?_) | ((with_reducible refine AL.on ?_); first | ((first | ((with_reducible refine AL.k_move ?_); first | refine AL.mv ?_) | ((with_reducible refine AL.k_assign ?_); first | refine AL.as ?_) | ((with_reducible refine AL.k_binOp ?_); first | refine AL.g (OQ.neq rfl rfl) ?_)); refine AL.nm ?_) | ((first | first | refine AL.pcall (g := 93) rfl kr rfl ((by exact rSize_g _ (by omega) _)) ?_); refine AL.nm ?_) | refine AL.nil ?_) | ((with_reducible refine AW.on ?_); first | refine AW.seq ?_ | refine AW.skip ?_ | refine AW.exit ?_ | refine AW.ret ?_ | ((refine AW.block (id := 0) ?_); (refine AW.fk [0, 1] ?_); (refine AW.loop (fun n t m => ∃ x y : Int, n = y.natAbs ∧ (-9223372036854775808 ≤ x ∧ x ≤ 9223372036854775807) ∧ (-9223372036854775808 ≤ y ∧ y ≤ 9223372036854775807) ∧ Int.gcd x y = Int.gcd a b ∧ t = (mtz 13 0 [(0, .int .i64 x), (1, .int .i64 y)]) ∧ m = []) (b.natAbs) (by exact ⟨a, b, rfl, ha, hb, rfl, rfl, rfl⟩) ?_); (rintro n t m ⟨x, y, rfl, hx, hy, hq, rfl, rfl⟩); (refine AW.nT ?_)) | refine AW.block ?_ | (refine AW.drawF (id := 2) 5 #[0, 0, 0, 6, 3, 31] kr kr ?_; (conv => (arg 8; simp only [List.take_succ_cons, List.take_zero]))) | (refine AW.region (id := 3) ?_; ((obtain rfl : y = 0 := (by assumption); rw [Int.gcd_zero] at hq))) | refine AW.region ?_ | (refine AW.conds rfl (fun hc => ?_) (fun hc => ?_) <;> (try replace hc := nc hc) <;> first | (exfalso; first | contradiction | (omega); done) | skip)) | ((with_reducible refine AF.on ?_); first | ((first | ((with_reducible refine AF.k_move ?_); first | (refine AF.q 0 (SW.q (OQ.move wl) rfl) ?_)) | ((with_reducible refine AF.k_assign ?_); first | (refine AF.q 0 (SW.q (OQ.assign wl) rfl) ?_)) | ((with_reducible refine AF.k_binOp ?_); first | refine AF.q 0 (SW.q (OQ.rem rfl rfl (by omega)) rfl) ?_)); refine AF.nm ?_) | refine AF.nl ?_) | ((with_reducible refine ex_on ?_); exact ⟨_, _, _, natAbs_tmod_lt ‹¬ y = 0›, Wk.fk [0, 1] rfl, y, x.tmod y, rfl, hy, gmod_bd hx hy, (gcd_step x y).trans hq, rfl, rfl⟩) | ((with_reducible refine FinP.on ?_); (first | refine FinP.ret (.tmp wl .nil) ?_ rfl | refine FinP.end (.tmp wl .nil) ?_ rfl); (try simp only [pack, List.drop, List.take]); all_goals (rw [hq])))
theorem rIsLowest_q (a b : Int) (ha : -9223372036854775808 ≤ a ∧ a ≤ 9223372036854775807) (hb : -9223372036854775808 ≤ b ∧ b ≤ 9223372036854775807) (m : Mem) : PCalls Tryz.prog 101 [.agg #[.int .i64 a, .int .i64 b]] m (.bool (decide (0 < b ∧ Int.gcd a b = 1))) := by
 have h0 : 0 < b → Int.gcd a b ≤ 9223372036854775807 := fun h => by
  have := Nat.le_of_dvd (by omega) (Int.gcd_dvd_natAbs_right a b)
  omega
 have h1 : (Int.gcd a b = 1) ↔ ((Int.gcd a b : Int) = 1) := by omega
 have hR : decide (0 < b ∧ Int.gcd a b = 1) = decide (0 < b ∧ (Int.gcd a b : Int) = 1) := decide_eq_decide.2 (and_congr_right fun _ => h1)
 rw [hR]
 refine PCalls.any ?_ rfl rfl m
 refine PCalls.en 13 Tryz.func101 rfl (ro_nil) rfl (fun E => ?_)
 repeat' (first | with_reducible (first | refine Then.n ?_ | refine Then.r ?_ | refine Then.x ?_ | refine InB.n ?_ | refine InB.r ?_ | refine InB.hit ?_ | refine InB.miss (by decide) ?_) | ((with_reducible refine AL.on ?_); first | (refine AL.gd rfl ?_; first | (refine AL.gskip rfl rfl ?_; refine AL.nm ?_) | (refine AL.gs1 rfl rfl (fun hc => ?_) (fun hc => ?_) <;> (try replace hc := nc hc) <;> first | (exfalso; first | contradiction | (omega); done) | refine AL.nm ?_) | (refine AL.gs0 rfl rfl (fun hc => ?_) (fun hc => ?_) <;> (try replace hc := nc hc) <;> first | (exfalso; first | contradiction | (omega); done) | refine AL.nm ?_)) | ((first | ((with_reducible refine AL.k_fieldAddr ?_); first | refine AL.g (OQ.fieldA (ty := 79) (i := 1) (n := 1) (off := 1) (g := false) rfl kr (by decide)) ?_ | refine AL.g (OQ.fieldA (ty := 79) (i := 0) (n := 1) (off := 0) (g := false) rfl kr (by decide)) ?_) | ((with_reducible refine AL.k_load ?_); first | (refine AL.g (OQ.load1 (ty := 3) rfl kr wl) ?_)) | ((with_reducible refine AL.k_assign ?_); first | refine AL.as ?_) | ((with_reducible refine AL.k_binOp ?_); first | refine AL.g (OQ.gtr rfl rfl) ?_ | refine AL.g (OQ.eql rfl rfl) ?_) | ((with_reducible refine AL.k_move ?_); first | refine AL.mv ?_) | ((with_reducible refine AL.k_pick ?_); first | refine AL.pT ?_ | refine AL.pF ?_)); refine AL.nm ?_) | ((first | first | refine AL.pcall (g := 96) rfl kr rfl ((by exact rGcd_q _ _ (by omega) (by omega) (h0 (by first | assumption | omega)) _)) ?_); refine AL.nm ?_) | ((first | first | refine AL.bx ?_); refine AL.nm ?_; refine AL.nM ?_) | (refine AL.bs rfl (fun hc => ?_) (fun hc => ?_) <;> (fail_if_success (with_reducible exact lit_no hc)) <;> (try replace hc := nc hc) <;> first | (exfalso; first | contradiction | (omega); done) | refine AL.nm ?_) | refine AL.nil ?_) | ((with_reducible refine AW.on ?_); first | refine AW.seq ?_ | refine AW.skip ?_ | refine AW.exit ?_ | refine AW.ret ?_ | refine AW.block ?_ | refine AW.region ?_ | (refine AW.conds rfl (fun hc => ?_) (fun hc => ?_) <;> (try replace hc := nc hc) <;> first | (exfalso; first | contradiction | (omega); done) | skip)) | ((with_reducible refine FinP.on ?_); (first | refine FinP.ret (.tmp wl .nil) ?_ rfl | refine FinP.end (.tmp wl .nil) ?_ rfl); (try simp only [pack, List.drop, List.take]); all_goals (first | rfl | (simp_all; done) | (simp; omega) | (simp; intros; omega))))
theorem rFloor_q (n d : Int) (hn : 0 ≤ n ∧ n ≤ 9223372036854775807) (hd : 0 < d) (m : Mem) : PCalls Tryz.prog 141 [.int .i64 n, .int .i64 d] m (.int .i64 (n / d)) := by
 have e1 : n.tdiv d = n / d := Int.tdiv_eq_ediv_of_nonneg hn.1
 have e2 := Int.tmod_nonneg d hn.1
 have e3 : 0 ≤ n / d ∧ n / d ≤ n := ⟨Int.ediv_nonneg hn.1 (by omega), Int.ediv_le_self d hn.1⟩
 rw [← e1] at *
 refine PCalls.any ?_ rfl rfl m
 refine PCalls.en 14 Tryz.func141 rfl (ro_nil) rfl (fun E => ?_)
 repeat' (first | with_reducible (first | refine Then.n ?_ | refine Then.r ?_ | refine Then.x ?_ | refine InB.n ?_ | refine InB.r ?_ | refine InB.hit ?_ | refine InB.miss (by decide) ?_) | ((with_reducible refine AL.on ?_); first | ((first | ((with_reducible refine AL.k_move ?_); first | refine AL.mv ?_) | ((with_reducible refine AL.k_assign ?_); first | refine AL.as ?_) | ((with_reducible refine AL.k_binOp ?_); first | refine AL.g (OQ.quoi rfl rfl (by omega) (by omega)) ?_ | refine AL.g (OQ.quo rfl rfl (by omega)) ?_ | refine AL.g (OQ.rem rfl rfl (by omega)) ?_ | refine AL.g (OQ.lss rfl rfl) ?_ | refine AL.g (OQ.subi rfl rfl (by omega)) ?_ | refine AL.g (OQ.sub rfl rfl) ?_)); refine AL.nm ?_) | refine AL.nil ?_) | ((with_reducible refine AW.on ?_); first | refine AW.seq ?_ | refine AW.skip ?_ | refine AW.exit ?_ | refine AW.ret ?_ | refine AW.block ?_ | refine AW.region ?_ | (refine AW.conds rfl (fun hc => ?_) (fun hc => ?_) <;> (try replace hc := nc hc) <;> first | (exfalso; first | contradiction | (omega); done) | skip)) | ((with_reducible refine FinP.on ?_); (first | refine FinP.ret (.tmp wl .nil) ?_ rfl | refine FinP.end (.tmp wl .nil) ?_ rfl); (try simp only [pack, List.drop, List.take]); all_goals (rfl)))
end Go.Proofs.YtmohcmghbfhdlaaGreat
end
end
/- Chapter 6: which points are right: both sides. -/
section
set_option linter.unusedSimpArgs false
set_option linter.unusedVariables false
section
namespace Go.Me
open Go.Ab
def idxP (l : List Pn) (p : Pn) : Nat → Int
 | 0 => -1
 | k + 1 => if idxP l p k ≠ -1 then idxP l p k else if (p.x, p.y) = ((pt l k).x, (pt l k).y) then k else -1
theorem idxP_no {l : List Pn} {p : Pn} : ∀ n : Nat, (∀ j, j < n → ¬ (p.x, p.y) = ((pt l j).x, (pt l j).y)) → idxP l p n = -1 := by
 intro n
 induction n with
 | zero => intro _; rfl
 | succ n ih =>
  intro h
  unfold idxP
  rw [if_neg (fun h2 => h2 (ih fun j hj => h j (by omega))), if_neg (h n (by omega))]
theorem idxP_yes {l : List Pn} {p : Pn} {k : Nat} (hk : ∀ j, j < k → ¬ (p.x, p.y) = ((pt l j).x, (pt l j).y)) (he : (p.x, p.y) = ((pt l k).x, (pt l k).y)) : ∀ n : Nat, k < n → idxP l p n = k := by
 intro n
 induction n with
 | zero => intro h; omega
 | succ n ih =>
  intro h
  rcases Nat.lt_or_eq_of_le (Nat.le_of_lt_succ h) with h | rfl
  ·have := ih h
   unfold idxP
   rw [this, if_pos (by omega)]
  ·unfold idxP
   rw [if_neg (fun h2 => h2 (idxP_no k hk)), if_pos he]
theorem idxP_bd (l : List Pn) (p : Pn) : ∀ n : Nat, -1 ≤ idxP l p n ∧ idxP l p n < n := by
 intro n
 induction n with
 | zero => unfold idxP; omega
 | succ n ih =>
  unfold idxP
  repeat' split
  all_goals omega
def ptE (l : List Pn) (i : Nat) : Int := if okP (pt l i) = false then 2 else if idxP l (pt l i) i = -1 then 0 else 5
def cpN (l : List Pn) : Nat → Int
 | 0 => -1
 | k + 1 => if cpN l k ≠ -1 then cpN l k else if ptE l k ≠ 0 then k else -1
def cpA (l : List Pn) : Int := if 40 < l.length then 0 else if cpN l l.length = -1 then 0 else cpN l l.length
def cpB (l : List Pn) : Int := if 40 < l.length then 8 else if cpN l l.length = -1 then 0 else ptE l (cpN l l.length).toNat
theorem cpN_no {l : List Pn} : ∀ n : Nat, (∀ j, j < n → ptE l j = 0) → cpN l n = -1 := by
 intro n
 induction n with
 | zero => intro _; rfl
 | succ n ih =>
  intro h
  unfold cpN
  rw [if_neg (fun h2 => h2 (ih fun j hj => h j (by omega))), if_neg (fun h2 => h2 (h n (by omega)))]
theorem cpN_yes {l : List Pn} {k : Nat} (hk : ∀ j, j < k → ptE l j = 0) (he : ptE l k ≠ 0) : ∀ n : Nat, k < n → cpN l n = k := by
 intro n
 induction n with
 | zero => intro h; omega
 | succ n ih =>
  intro h
  rcases Nat.lt_or_eq_of_le (Nat.le_of_lt_succ h) with h | rfl
  ·have := ih h
   unfold cpN
   rw [this, if_pos (by omega)]
  ·unfold cpN
   rw [if_neg (fun h2 => h2 (cpN_no k hk)), if_pos he]
end Go.Me
namespace Go.Ab
section
variable {P : Program} {t : T} {m : Mem} {dst : Option Tmp} {rt ty ty' : TypeId} {pos : String} {after : Array Edge} {guard : Option (Nat × Bool)} {x y : Operand}
theorem OQ.sliceTo {lo hi : Option Operand} {b n c z k : Nat} {g : Bool} {blk : Blk} (hx : t.ev x = .slice (some ⟨b, 0, none⟩) n c) (hf : elemOf' P ty = some (none, z, g)) (hb : m.at b = some blk) (hz : blk.esz = 0 ∨ blk.esz = z)
  (hl : bnd t lo 0 = some 0) (hh : bnd t hi n = some (k : Int)) (h2 : k ≤ n) : OQ P ⟨dst, .slice ty x lo hi none, rt, pos, after, guard⟩ t m (.slice (some ⟨b, 0, none⟩) k c) := by
 have := OQ.sliceS (dst := dst) (rt := rt) (pos := pos) (after := after) (guard := guard) hx hf hb hz hl hh (by decide) (by omega) (by omega)
 simpa using this
end
end Go.Ab
namespace Go.Proofs.YtmohcmghbfhdlaaGreat
open Go Go.RowKit Go.Ab Go.Me
set_option maxRecDepth 100000
set_option maxHeartbeats 4000000
theorem eqr_t65 (d : Nat) (w : World) (a0 a1 b0 b1 : Int) : (Op.equalIn (d + 2) 65 (.agg #[.int .i64 a0, .int .i64 a1]) (.agg #[.int .i64 b0, .int .i64 b1])).run Tryz.prog w = .ok (decide ((a0, a1) = (b0, b1))) w := by
 unfold Op.equalIn
 simp [Tryz.underlying65, run_underlying, go_sem, List.forIn_cons]
 by_cases h0 : a0 = b0
 case neg => simp [h0]
 by_cases h1 : a1 = b1
 case neg => simp [h0, h1]
 simp [h0, h1]
theorem eql_t65 {t : T} {m : Mem} {dst : Option Tmp} {rt ty' : TypeId} {pos : String} {after : Array Edge} {guard : Option (Nat × Bool)} {x y : Operand} {a0 a1 b0 b1 : Int} (hx : t.ev x = (.agg #[.int .i64 a0, .int .i64 a1])) (hy : t.ev y = (.agg #[.int .i64 b0, .int .i64 b1])) :
  OQ Tryz.prog ⟨dst, .binOp .eql 65 x y ty', rt, pos, after, guard⟩ t m (.bool (decide ((a0, a1) = (b0, b1)))) := by
 refine OQ.closed (fun cs b => by simp) (fun z hz => ?_) (fun w => ?_) rfl
 ·simp [Op.operands] at hz
  rcases hz with rfl | rfl
  ·rw [hx]; rfl
  ·rw [hy]; rfl
 ·have e := eqr_t65 9998 w a0 a1 b0 b1
  have hgt : (Tryz.prog).eqGuardType (Tryz.prog).depth 65 = false := by kernel_rfl
  have hg : (eqGuard .eql 65 x y (t.ev x) (t.ev y)).run Tryz.prog w = .ok () w := by
   rw [hx, hy]
   simp [eqGuard, program, Sem.run, Sem.run_bind, hgt]
  rw [hx, hy] at hg
  simp only [execOp, hx, hy, Sem.run_bind, hg, Result.andThen_ok, binOp, Op.equal, Op.maxDepth]
  erw [e]
  simp [go_sem]
attribute [local irreducible] OQ OW AL AW AF SW
theorem Index_0 (l : List Pn) (p : Pn) (n c z : Nat) (hn : n ≤ l.length) (hl : l.length ≤ 1000000) : PCalls Tryz.prog 138 [.slice (some ⟨0, 0, none⟩) n c, ptV p] [some ⟨flatP l, false, z⟩] (.int .i64 (idxP l p n)) := by
 have hld := fun (k : Nat) (hk : k < l.length) (r : Mem) => flatP_ld (m := some ⟨flatP l, false, z⟩ :: r) (b := 0) (l := l) rfl rfl k hk
 have hno := idxP_no (l := l) (p := p) n
 have hyes := fun (k : Nat) (h1 : k < n) (hj : ∀ j, j < k → ¬ (p.x, p.y) = ((pt l j).x, (pt l j).y)) (he : (p.x, p.y) = ((pt l k).x, (pt l k).y)) => idxP_yes hj he n h1
 generalize idxP l p n = E0 at *
 refine PCalls.en 17 Tryz.func138 rfl (ro1p _ rfl) rfl (fun E => ?_)
 repeat' (first | with_reducible (first | refine Then.n ?_ | refine Then.r ?_ | refine Then.x ?_ | refine InB.n ?_ | refine InB.r ?_ | refine InB.hit ?_) | ((with_reducible refine AL.on ?_); first | ((first | refine AL.mv ?_ | refine AL.as ?_ | ((with_reducible refine AL.k_binOp ?_); first | refine AL.g (OQ.lss rfl rfl) ?_ | refine AL.q rfl (eql_t65 rfl rfl) ?_ | refine AL.g (OQ.addi rfl rfl (by omega)) ?_) | ((with_reducible refine AL.k_call ?_); refine AL.g (OQ.lenS (xt := 22) (r := (none, 2, true)) rfl kr) ?_)); refine AL.nm ?_) | ((refine AL.bx ?_); refine AL.nm ?_; refine AL.nM ?_) | refine AL.nil ?_) | ((with_reducible refine AW.on ?_); first | refine AW.seq ?_ | refine AW.skip ?_ | refine AW.exit ?_ | refine AW.ret ?_ | ((refine AW.block (id := 0) ?_); (refine AW.fk [0, 3, 7, 8] ?_); (refine AW.loop (fun n' t' m => ∃ k : Nat, n' = n - k ∧ k ≤ n ∧ (∀ j, j < k → ¬ (p.x, p.y) = ((pt l j).x, (pt l j).y)) ∧ t' = (mtz 19 0 [(0, .slice (some ⟨0, 0, none⟩) n c), (3, .pointer (some ⟨1, 0, none⟩)), (7, .int .i64 (n)), (8, .int .i64 (k))]) ∧ m = [some ⟨flatP l, false, z⟩, some ⟨[.int .i64 (p.x), .int .i64 (p.y)], true, 0⟩]) (n) (by exact ⟨0, rfl, Nat.zero_le _, fun j h => absurd h (by omega), rfl, rfl⟩) ?_); (rintro n' t' m ⟨k, rfl, hk, hj, rfl, rfl⟩); (refine AW.nT ?_)) | refine AW.block ?_ | (refine AW.drawF (id := 4) 5 #[0, 0, 0, 6, 14, 31] kr kr ?_; (conv => (arg 8; simp only [List.take_succ_cons, List.take_zero]))) | refine AW.region ?_ | (refine AW.conds rfl (fun hc => ?_) (fun hc => ?_) <;> (try replace hc := nc hc) <;> skip)) | ((with_reducible refine AF.on ?_); first | ((first | ((with_reducible refine AF.k_move ?_); (refine AF.q 0 (SW.q (OQ.move wl) rfl) ?_)) | ((with_reducible refine AF.k_load ?_); refine AF.ql rfl (SW.q (OQ.loadN (ty := 65) (n := 2) rfl kr kr (by first | (exact hld _ (by omega) _) | rfl)) rfl) ?_) | ((with_reducible refine AF.k_indexAddr ?_); refine AF.q 0 (SW.q (OQ.idxAddr (ty := 22) (z := 2) (g := true) rfl rfl kr (by omega) (by omega)) rfl) ?_)); refine AF.nm ?_) | refine AF.nl ?_) | ((with_reducible refine ex_on ?_); (refine ⟨n - (k + 1), _, _, by omega, ?_, k + 1, rfl, by omega, fun j h => (by rcases Nat.lt_or_eq_of_le (Nat.le_of_lt_succ h) with h | rfl; (exact hj j h); (assumption)), rfl, rfl⟩; exact Wk.fk [0, 3, 7, 8] rfl)) | ((with_reducible refine FinP.on ?_); (refine FinP.ret (.tmp wl .nil) ?_ rfl); (try simp only [pack, List.drop, List.take]); all_goals (symm; first | (rw [hyes k (by omega) hj (by assumption)]; done) | (obtain rfl : k = n := (by omega); rw [hno hj]))))
theorem Index_q {m : Mem} {b n c : Nat} {blk : Blk} (l : List Pn) (p : Pn) (hb : m.at b = some blk) (hc : blk.cells = flatP l) (hn : n ≤ l.length) (hl : l.length ≤ 1000000) (ho : blk.obj = Ob.plain := by rfl) : PCalls Tryz.prog 138 [.slice (some ⟨b, 0, none⟩) n c, ptV p] m (.int .i64 (idxP l p n)) := by
 exact PCalls.viaS [b] (Index_0 l p n c blk.esz hn hl) (ro1p _ rfl) ⟨bS hb ho hc (flatP_scal _), trivial⟩ rfl rfl rfl rfl
theorem Contains_0 (l : List Pn) (p : Pn) (n c z : Nat) (hn : n ≤ l.length) (hl : l.length ≤ 1000000) : PCalls Tryz.prog 98 [.slice (some ⟨0, 0, none⟩) n c, ptV p] [some ⟨flatP l, false, z⟩] (.bool (decide (0 ≤ idxP l p n))) := by
 have hi := fun (m : Mem) (b : Nat) (blk : Blk) (h1 : m.at b = some blk) (h2 : blk.cells = flatP l) (h3 : blk.obj = Ob.plain) => Index_q (n := n) (c := c) l p h1 h2 hn hl h3
 generalize idxP l p n = E0 at *
 refine PCalls.en 7 Tryz.func98 rfl (ro1p _ rfl) rfl (fun E => ?_)
 repeat' (first | with_reducible (refine Then.n ?_) | ((with_reducible refine AL.on ?_); first | ((first | refine AL.as ?_ | refine AL.mv ?_ | ((with_reducible refine AL.k_load ?_); refine AL.g (OQ.loadN (ty := 65) (n := 2) rfl kr kr rfl) ?_) | ((with_reducible refine AL.k_binOp ?_); refine AL.g (OQ.geq rfl rfl) ?_)); refine AL.nm ?_) | ((refine AL.pcall (g := 138) rfl kr rfl ((by exact hi _ 0 _ rfl rfl rfl)) ?_); refine AL.nm ?_) | ((refine AL.bx ?_); refine AL.nm ?_; refine AL.nM ?_) | refine AL.nil ?_) | ((with_reducible refine AW.on ?_); first | refine AW.seq ?_ | refine AW.ret ?_ | refine AW.region ?_) | ((with_reducible refine FinP.on ?_); (refine FinP.ret (.tmp wl .nil) ?_ rfl); (try simp only [pack, List.drop, List.take]); all_goals (rfl)))
theorem Contains_q {m : Mem} {b n c : Nat} {blk : Blk} (l : List Pn) (p : Pn) (hb : m.at b = some blk) (hc : blk.cells = flatP l) (hn : n ≤ l.length) (hl : l.length ≤ 1000000) (ho : blk.obj = Ob.plain := by rfl) : PCalls Tryz.prog 98 [.slice (some ⟨b, 0, none⟩) n c, ptV p] m (.bool (decide (0 ≤ idxP l p n))) := by
 exact PCalls.viaS [b] (Contains_0 l p n c blk.esz hn hl) (ro1p _ rfl) ⟨bS hb ho hc (flatP_scal _), trivial⟩ rfl rfl rfl rfl
theorem pointErr_0 (l : List Pn) (i c z : Nat) (hi : i < l.length) (hl : l.length ≤ 1000000) : PCalls Tryz.prog 100 [.slice (some ⟨0, 0, none⟩) l.length c, .int .i64 i] [some ⟨flatP l, false, z⟩] (.int .i64 (ptE l i)) := by
 have hld := fun (k : Nat) (hk : k < l.length) (r : Mem) => flatP_ld (m := some ⟨flatP l, false, z⟩ :: r) (b := 0) (l := l) rfl rfl k hk
 have hw := fun (p : Pn) (m : Mem) => isPoint_q p m
 have h2 : okP (pt l i) = false → ptE l i = 2 := fun h => by unfold ptE; rw [if_pos h]
 have h5 : okP (pt l i) = true → ∀ k, k < i → (∀ j, j < k → ¬ ((pt l i).x, (pt l i).y) = ((pt l j).x, (pt l j).y)) → ((pt l i).x, (pt l i).y) = ((pt l k).x, (pt l k).y) → ptE l i = 5 := fun h k hk hj he => by
  unfold ptE
  rw [if_neg (by rw [h]; decide), if_neg]
  rw [idxP_yes hj he i hk]
  omega
 have h0 : okP (pt l i) = true → (∀ j, j < i → ¬ ((pt l i).x, (pt l i).y) = ((pt l j).x, (pt l j).y)) → ptE l i = 0 := fun h hj => by
  unfold ptE
  rw [if_neg (by rw [h]; decide), if_pos (idxP_no i hj)]
 generalize ptE l i = E0 at *
 refine PCalls.en 24 Tryz.func100 rfl (ro1p _ rfl) rfl (fun E => ?_)
 repeat' (first | with_reducible (first | refine Then.n ?_ | refine Then.r ?_ | refine Then.x ?_ | refine InB.n ?_ | refine InB.r ?_ | refine InB.hit ?_) | ((with_reducible refine AL.on ?_); first | ((first | refine AL.mv ?_ | refine AL.as ?_ | ((with_reducible refine AL.k_load ?_); refine AL.g (OQ.loadN (ty := 65) (n := 2) rfl kr kr (by (exact hld _ (by omega) _))) ?_) | ((with_reducible refine AL.k_binOp ?_); first | refine AL.g (OQ.lss rfl rfl) ?_ | refine AL.q rfl (eql_t65 rfl rfl) ?_ | refine AL.g (OQ.addi rfl rfl (by omega)) ?_) | ((with_reducible refine AL.k_unOp ?_); refine AL.g (OQ.not rfl) ?_)); refine AL.nm ?_) | ((first | ((with_reducible refine AL.k_indexAddr ?_); refine AL.g (OQ.idxAddr (ty := 22) (z := 2) (g := true) rfl rfl kr (by omega) (by omega)) ?_) | ((with_reducible refine AL.k_call ?_); refine AL.pcall (g := 140) rfl kr rfl (hw _ _) ?_)); refine AL.nm ?_) | refine AL.nil ?_) | ((with_reducible refine AW.on ?_); first | refine AW.seq ?_ | refine AW.skip ?_ | refine AW.exit ?_ | refine AW.ret ?_ | ((refine AW.block (id := 0) ?_); (refine AW.fk [0, 1, 5] ?_); (refine AW.loop (fun n' t' m => ∃ k : Nat, n' = i - k ∧ k ≤ i ∧ (∀ j, j < k → ¬ ((pt l i).x, (pt l i).y) = ((pt l j).x, (pt l j).y)) ∧ t' = (mtz 26 0 [(0, .slice (some ⟨0, 0, none⟩) l.length c), (1, .int .i64 (i)), (5, .int .i64 (k))]) ∧ m = [some ⟨flatP l, false, z⟩]) (i) (by exact ⟨0, rfl, Nat.zero_le _, fun j h => absurd h (by omega), rfl, rfl⟩) ?_); (rintro n' t' m ⟨k, rfl, hk, hj, rfl, rfl⟩); (refine AW.nT ?_)) | refine AW.block ?_ | (refine AW.drawF (id := 6) 8 #[0, 0, 3, 7, 0, 0, 48, 112, 255] kr kr ?_; (conv => (arg 8; simp only [List.take_succ_cons, List.take_zero]))) | refine AW.region ?_ | (refine AW.conds rfl (fun hc => ?_) (fun hc => ?_) <;> (try replace hc := nc hc) <;> skip)) | ((with_reducible refine AF.on ?_); first | ((first | ((with_reducible refine AF.k_move ?_); (refine AF.q 0 (SW.q (OQ.move wl) rfl) ?_)) | ((with_reducible refine AF.k_indexAddr ?_); refine AF.q 0 (SW.q (OQ.idxAddr (ty := 22) (z := 2) (g := true) rfl rfl kr (by omega) (by omega)) rfl) ?_) | ((with_reducible refine AF.k_load ?_); refine AF.ql rfl (SW.q (OQ.loadN (ty := 65) (n := 2) rfl kr kr (by (exact hld _ (by omega) _))) rfl) ?_)); refine AF.nm ?_) | refine AF.nl ?_) | ((with_reducible refine ex_on ?_); (refine ⟨i - (k + 1), _, _, by omega, ?_, k + 1, rfl, by omega, fun j h => (by rcases Nat.lt_or_eq_of_le (Nat.le_of_lt_succ h) with h | rfl; (exact hj j h); (exact fun h => ‹¬ _› h.symm)), rfl, rfl⟩; exact Wk.fk [0, 1, 5] rfl)) | ((with_reducible refine FinP.on ?_); (refine FinP.ret (.tmp wl .nil) ?_ rfl); (try simp only [pack, List.drop, List.take]); all_goals (symm; first | (rw [h2 (by first | assumption | simp_all)]; done) | (rw [h5 (by assumption) k (by omega) hj (by exact hc.symm)]; done) | (obtain rfl : k = i := (by omega); rw [h0 (by assumption) hj]))))
theorem pointErr_q {m : Mem} {b i n c : Nat} {blk : Blk} (l : List Pn) (hb : m.at b = some blk) (hc : blk.cells = flatP l) (hn : l.length = n) (hi : i < l.length) (hl : l.length ≤ 1000000) (ho : blk.obj = Ob.plain := by rfl) : PCalls Tryz.prog 100 [.slice (some ⟨b, 0, none⟩) n c, .int .i64 i] m (.int .i64 (ptE l i)) := by
 subst hn
 exact PCalls.viaS [b] (pointErr_0 l i c blk.esz hi hl) (ro1p _ rfl) ⟨bS hb ho hc (flatP_scal _), trivial⟩ rfl rfl rfl rfl
theorem CheckPoints_0 (l : List Pn) (c z : Nat) (hl : l.length ≤ 1000000) (hz : z = 0 ∨ z = 2) : PCalls Tryz.prog 121 [.slice (some ⟨0, 0, none⟩) l.length c] [some ⟨flatP l, false, z⟩] (.tuple #[.int .i64 (cpA l), .int .i64 (cpB l)]) := by
 have hld := fun (k : Nat) (hk : k < l.length) (r : Mem) => flatP_ld (m := some ⟨flatP l, false, z⟩ :: r) (b := 0) (l := l) rfl rfl k hk
 have hp := fun (m : Mem) (k b : Nat) (blk : Blk) (h1 : m.at b = some blk) (h2 : blk.cells = flatP [pt l k]) (h3 : blk.obj = Ob.plain) => placeErr_q (n := 1) (c := 1) [pt l k] h1 h2 rfl (by simp) h3
 have hq := fun (m : Mem) (k b : Nat) (blk : Blk) (h1 : m.at b = some blk) (h2 : blk.cells = flatP l) (hk : k ≤ l.length) (h3 : blk.obj = Ob.plain) => Contains_q (n := k) (c := c) l (pt l k) h1 h2 hk hl h3
 have hpl : ∀ k, plE [pt l k] = 0 ∧ okP (pt l k) = true ∨ plE [pt l k] = 2 ∧ okP (pt l k) = false := fun k => by
  rw [plE_cons, plE_nil]
  cases okP (pt l k) <;> simp
 have hbd := fun k => idxP_bd l (pt l k) k
 have e2 : ∀ k, plE [pt l k] ≠ 0 → ptE l k = 2 := fun k h => by
  rcases hpl k with h2 | h2
  ·exact absurd h2.1 h
  ·unfold ptE; rw [if_pos h2.2]
 have e5 : ∀ k, plE [pt l k] = 0 → 0 ≤ idxP l (pt l k) k → ptE l k = 5 := fun k h h3 => by
  rcases hpl k with h2 | h2
  ·unfold ptE; rw [if_neg (by rw [h2.2]; decide), if_neg (by omega)]
  ·omega
 have e0 : ∀ k, plE [pt l k] = 0 → ¬ 0 ≤ idxP l (pt l k) k → ptE l k = 0 := fun k h h3 => by
  have := hbd k
  rcases hpl k with h2 | h2
  ·unfold ptE; rw [if_neg (by rw [h2.2]; decide), if_pos (by omega)]
  ·omega
 have h8 : 40 < l.length → cpA l = 0 ∧ cpB l = 8 := fun h => by unfold cpA cpB; rw [if_pos h, if_pos h]; exact ⟨rfl, rfl⟩
 have hy : ¬ 40 < l.length → ∀ k, k < l.length → (∀ j, j < k → ptE l j = 0) → ∀ e, ptE l k = e → e ≠ 0 → cpA l = k ∧ cpB l = e := fun h k hk hj e he h0 => by
  subst he
  unfold cpA cpB
  rw [if_neg h, if_neg h, cpN_yes hj h0 _ hk, if_neg (by omega), if_neg (by omega)]
  exact ⟨rfl, rfl⟩
 have h0 : ¬ 40 < l.length → (∀ j, j < l.length → ptE l j = 0) → cpA l = 0 ∧ cpB l = 0 := fun h hj => by
  unfold cpA cpB
  rw [if_neg h, if_neg h, cpN_no _ hj, if_pos rfl, if_pos rfl]
  exact ⟨rfl, rfl⟩
 generalize cpA l = A0 at *
 generalize cpB l = B0 at *
 generalize ptE l = F at *
 refine PCalls.enJ 29 Tryz.func121 rfl (ro1p _ rfl) rfl (fun E hE => ?_)
 repeat' (first | with_reducible (first | refine Then.n ?_ | refine Then.r ?_ | refine Then.x ?_ | refine InB.n ?_ | refine InB.r ?_ | refine InB.hit ?_) | ((with_reducible refine AL.on ?_); first | ((first | refine AL.as ?_ | refine AL.mv ?_ | ((with_reducible refine AL.k_call ?_); refine AL.g (OQ.lenS (xt := 22) (r := (none, 2, true)) rfl kr) ?_) | ((with_reducible refine AL.k_binOp ?_); first | refine AL.g (OQ.gtr rfl rfl) ?_ | refine AL.g (OQ.lss rfl rfl) ?_ | refine AL.g (OQ.neq rfl rfl) ?_ | refine AL.g (OQ.addi rfl rfl (by omega)) ?_) | ((with_reducible refine AL.k_load ?_); refine AL.g (OQ.loadN (ty := 65) (n := 2) rfl kr kr (by first | (exact hld _ (by omega) _) | rfl)) ?_)); refine AL.nm ?_) | ((first | ((with_reducible refine AL.k_call ?_); first | refine AL.pcall (g := 97) rfl kr rfl ((by exact hp _ k _ _ rfl rfl rfl)) ?_ | refine AL.pcall (g := 98) rfl kr rfl ((by exact hq _ k 0 _ rfl rfl (by omega) rfl)) ?_) | ((with_reducible refine AL.k_indexAddr ?_); refine AL.g (OQ.idxAddr (ty := 22) (z := 2) (g := true) rfl rfl kr (by omega) (by omega)) ?_)); refine AL.nm ?_) | ((first | ((with_reducible refine AL.k_alloc ?_); refine AL.w rfl (OW.alloc (ty := 65) (z := [.int .i64 0, .int .i64 0]) kr rfl) ?_) | ((with_reducible refine AL.k_store ?_); (refine AL.w rfl (OW.store (ty := 65) (n := 2) rfl wl rfl rfl kr rfl rfl (by decide) rfl (Nat.le_of_ble_eq_true rfl) (by intro r h; cases h)) ?_)) | ((with_reducible refine AL.k_buildSlice ?_); refine AL.w rfl (OW.buildSl (ty := 22) (zs := [.int .i64 0, .int .i64 0]) (n := 2) (g := true) kr kr rfl rfl rfl (by decide) (by decide) rfl rfl) ?_)); refine AL.nm ?_; refine AL.nM ?_) | refine AL.nil ?_) | ((with_reducible refine AW.on ?_); first | refine AW.seq ?_ | refine AW.skip ?_ | refine AW.exit ?_ | refine AW.ret ?_ | ((refine AW.block (id := 0) ?_); (refine AW.fk [0, 9, 10, 11] ?_); (refine AW.loop (fun n' t' m => ∃ k : Nat, n' = l.length - k ∧ k ≤ l.length ∧ (∀ j, j < k → F j = 0) ∧ t' = (mtz 30 0 [(0, .slice (some ⟨0, 0, none⟩) l.length c), (9, .slice (some ⟨0, 0, none⟩) l.length c), (10, .int .i64 (l.length)), (11, .int .i64 (k))]) ∧ m = [some ⟨flatP l, false, z⟩]) (l.length) (by exact ⟨0, rfl, Nat.zero_le _, fun j h => absurd h (by omega), rfl, rfl⟩) ?_); (rintro n' t' m ⟨k, rfl, hk, hj, rfl, rfl⟩); (refine AW.nT ?_)) | refine AW.block ?_ | (refine AW.drawF (id := 8) 4 #[0, 0, 3, 0, 15, 31] kr kr ?_; (conv => (arg 8; simp only [List.take_succ_cons, List.take_zero]))) | refine AW.region ?_ | (refine AW.conds rfl (fun hc => ?_) (fun hc => ?_) <;> (try replace hc := nc hc) <;> skip)) | ((with_reducible refine AF.on ?_); first | ((first | ((with_reducible refine AF.k_move ?_); (refine AF.q 0 (SW.q (OQ.move wl) rfl) ?_)) | ((with_reducible refine AF.k_load ?_); refine AF.ql rfl (SW.q (OQ.loadN (ty := 65) (n := 2) rfl kr kr (by rfl)) rfl) ?_) | refine AF.q 2 (SW.q (by exact OQ.sliceTo (ty := 22) (k := k) (z := 2) (g := true) rfl kr rfl hz rfl rfl (by omega)) rfl) ?_); refine AF.nm ?_) | refine AF.nl ?_) | ((with_reducible refine ex_on ?_); (refine ⟨l.length - (k + 1), _, _, by omega, ?_, k + 1, rfl, by omega, fun j h => (by rcases Nat.lt_or_eq_of_le (Nat.le_of_lt_succ h) with h | rfl; (exact hj j h); (exact e0 _ (by assumption) (by omega))), rfl, rfl⟩; exact Wk.keep 1 [] (Nat.le_of_eq hE) rfl rfl (by repeat (first | exact RenT.nil | refine RenT.jk ?_ | refine RenT.val (by rfl) (by rfl) ?_)) ⟨kl rfl (flatP_scal l), trivial⟩)) | ((with_reducible refine FinJ.on ?_); first | (rw [(h8 (by omega)).1, (h8 (by omega)).2]; exact FinJ.ret (.tmp wl (.tmp wl .nil)) (jle_flat rfl)) | (rw [(hy (by omega) k (by omega) hj 2 (e2 k ‹_›) (by decide)).1, (hy (by omega) k (by omega) hj 2 (e2 k ‹_›) (by decide)).2]; exact FinJ.ret (.tmp wl (.tmp wl .nil)) (jle_flat rfl)) | (rw [(hy (by omega) k (by omega) hj 5 (e5 k (by assumption) (by assumption)) (by decide)).1, (hy (by omega) k (by omega) hj 5 (e5 k (by assumption) (by assumption)) (by decide)).2]; exact FinJ.ret (.tmp wl (.tmp wl .nil)) (jle_flat rfl)) | (obtain rfl : k = l.length := (by omega); rw [(h0 (by omega) hj).1, (h0 (by omega) hj).2]; exact FinJ.ret (.tmp wl (.tmp wl .nil)) (jle_flat rfl))))
end Go.Proofs.YtmohcmghbfhdlaaGreat
end
end
