/- Chapter 8: the boxes of the program. -/
import Derived.Test.YtmghmmmfdbafoaaGreatDoor08m
set_option linter.unusedSimpArgs false
set_option linter.unusedVariables false
namespace Go.Proofs.YtmghmmmfdbafoaaGreatDoor
open Go Go.RowKit Go.Ab Go.Sr
set_option maxRecDepth 100000
set_option maxHeartbeats 4000000
attribute [local irreducible] OQ OW AL AW AD AF SW

def mn4 (a b c d : Int) : Int := mn (mn (mn a b) c) d
def mx4 (a b c d : Int) : Int := mx (mx (mx a b) c) d
theorem Min_c (a b c d : Int) (k z : Nat) : PCalls Tryz.prog 43 [.slice (some ⟨0, 0, none⟩) 4 k] [some ⟨[.int .i64 a, .int .i64 b, .int .i64 c, .int .i64 d], false, z⟩] (.int .i64 (mn4 a b c d)) := by
  unfold mn4 mn
  refine PCalls.enter (t := [.slice (some ⟨0, 0, none⟩) 4 k, undef, undef, undef, undef, undef, undef, undef, undef, undef, undef, undef, undef, undef, undef, undef, undef, undef, undef, undef, undef, undef, undef, undef, undef]) Tryz.func43 rfl (ro1 _ rfl) rfl fun E => ?_
  repeat' (first
    | with_reducible refine Then.n ?_
    | with_reducible refine Then.r ?_
    | with_reducible refine Then.x ?_
    | with_reducible refine InB.n ?_
    | with_reducible refine InB.r ?_
    | with_reducible refine InB.hit ?_
    | with_reducible refine InB.miss (by decide) ?_
    | ((with_reducible refine AL.on ?_); first
      | ((first | ((with_reducible refine AL.k_move ?_); first | (refine AL.q rfl (OQ.move (by conv => lhs; whnf)) ?_)) | ((with_reducible refine AL.k_assign ?_); first | (refine AL.q rfl (OQ.assign (by conv => lhs; whnf)) ?_)) | ((with_reducible refine AL.k_call ?_); first | refine AL.q rfl (OQ.lenS (xt := 83) (r := (none, 1, false)) rfl (by kernel_rfl)) ?_ | refine AL.q rfl (OQ.min2 rfl rfl) ?_) | ((with_reducible refine AL.k_binOp ?_); first | refine AL.q rfl (OQ.lss rfl rfl) ?_ | refine AL.q rfl (OQ.addi rfl rfl (by omega)) ?_ | refine AL.q rfl (OQ.add rfl rfl) ?_) | ((with_reducible refine AL.k_indexAddr ?_); first | refine AL.q rfl (OQ.idxAddr (ty := 83) (z := 1) (g := false) rfl rfl (by kernel_rfl) (by omega) (by omega)) ?_) | ((with_reducible refine AL.k_load ?_); first | (refine AL.q rfl (OQ.load1 (ty := 3) rfl (by kernel_rfl) (by conv => lhs; whnf)) ?_))); (conv => (arg 5; try tactic => exact nrm)))
      | refine AL.nil ?_)
    | ((with_reducible refine AW.on ?_); first
      | refine AW.seq ?_
      | refine AW.skip ?_
      | refine AW.exit ?_
      | refine AW.ret ?_
      | (refine AW.block (id := 0) ?_; refine AW.unroll 4 ?_)
      | refine AW.block ?_
      | refine AW.region ?_
      | (refine AW.conds rfl (fun hc => ?_) (fun hc => ?_) <;> (try simp only [decide_eq_true_eq, decide_eq_false_iff_not, Bool.not_true, Bool.not_false, Bool.not_eq_true', Bool.not_eq_false', Int.not_lt, Int.not_le, Classical.not_not, ne_eq] at hc) <;> first | (exfalso; first | contradiction | (omega); done) | skip))
    | with_reducible refine AR.s ?_
    | ((with_reducible refine AR.out ?_); omega; done)
    | ((with_reducible refine FinP.on ?_); (first | refine FinP.ret (.tmp (by conv => lhs; whnf) .nil) ?_ rfl | refine FinP.end (.tmp (by conv => lhs; whnf) .nil) ?_ rfl); (try simp only [pack, List.drop, List.take]); all_goals (rfl)))
theorem Max_c (a b c d : Int) (k z : Nat) : PCalls Tryz.prog 44 [.slice (some ⟨0, 0, none⟩) 4 k] [some ⟨[.int .i64 a, .int .i64 b, .int .i64 c, .int .i64 d], false, z⟩] (.int .i64 (mx4 a b c d)) := by
  unfold mx4 mx
  refine PCalls.enter (t := [.slice (some ⟨0, 0, none⟩) 4 k, undef, undef, undef, undef, undef, undef, undef, undef, undef, undef, undef, undef, undef, undef, undef, undef, undef, undef, undef, undef, undef, undef, undef, undef]) Tryz.func44 rfl (ro1 _ rfl) rfl fun E => ?_
  repeat' (first
    | with_reducible refine Then.n ?_
    | with_reducible refine Then.r ?_
    | with_reducible refine Then.x ?_
    | with_reducible refine InB.n ?_
    | with_reducible refine InB.r ?_
    | with_reducible refine InB.hit ?_
    | with_reducible refine InB.miss (by decide) ?_
    | ((with_reducible refine AL.on ?_); first
      | ((first | ((with_reducible refine AL.k_move ?_); first | (refine AL.q rfl (OQ.move (by conv => lhs; whnf)) ?_)) | ((with_reducible refine AL.k_assign ?_); first | (refine AL.q rfl (OQ.assign (by conv => lhs; whnf)) ?_)) | ((with_reducible refine AL.k_call ?_); first | refine AL.q rfl (OQ.lenS (xt := 83) (r := (none, 1, false)) rfl (by kernel_rfl)) ?_ | refine AL.q rfl (OQ.max2 rfl rfl) ?_) | ((with_reducible refine AL.k_binOp ?_); first | refine AL.q rfl (OQ.lss rfl rfl) ?_ | refine AL.q rfl (OQ.addi rfl rfl (by omega)) ?_ | refine AL.q rfl (OQ.add rfl rfl) ?_) | ((with_reducible refine AL.k_indexAddr ?_); first | refine AL.q rfl (OQ.idxAddr (ty := 83) (z := 1) (g := false) rfl rfl (by kernel_rfl) (by omega) (by omega)) ?_) | ((with_reducible refine AL.k_load ?_); first | (refine AL.q rfl (OQ.load1 (ty := 3) rfl (by kernel_rfl) (by conv => lhs; whnf)) ?_))); (conv => (arg 5; try tactic => exact nrm)))
      | refine AL.nil ?_)
    | ((with_reducible refine AW.on ?_); first
      | refine AW.seq ?_
      | refine AW.skip ?_
      | refine AW.exit ?_
      | refine AW.ret ?_
      | (refine AW.block (id := 0) ?_; refine AW.unroll 4 ?_)
      | refine AW.block ?_
      | refine AW.region ?_
      | (refine AW.conds rfl (fun hc => ?_) (fun hc => ?_) <;> (try simp only [decide_eq_true_eq, decide_eq_false_iff_not, Bool.not_true, Bool.not_false, Bool.not_eq_true', Bool.not_eq_false', Int.not_lt, Int.not_le, Classical.not_not, ne_eq] at hc) <;> first | (exfalso; first | contradiction | (omega); done) | skip))
    | with_reducible refine AR.s ?_
    | ((with_reducible refine AR.out ?_); omega; done)
    | ((with_reducible refine FinP.on ?_); (first | refine FinP.ret (.tmp (by conv => lhs; whnf) .nil) ?_ rfl | refine FinP.end (.tmp (by conv => lhs; whnf) .nil) ?_ rfl); (try simp only [pack, List.drop, List.take]); all_goals (rfl)))
theorem Min_q {m : Mem} {i : Nat} {blk : Blk} (a b c d : Int) (k : Nat) (h : m.at i = some blk) (hc : blk.cells = [.int .i64 a, .int .i64 b, .int .i64 c, .int .i64 d]) : PCalls Tryz.prog 43 [.slice (some ⟨i, 0, none⟩) 4 k] m (.int .i64 (mn4 a b c d)) :=
  PCalls.via1 (fun z => Min_c a b c d k z) h hc rfl rfl rfl rfl rfl
theorem Max_q {m : Mem} {i : Nat} {blk : Blk} (a b c d : Int) (k : Nat) (h : m.at i = some blk) (hc : blk.cells = [.int .i64 a, .int .i64 b, .int .i64 c, .int .i64 d]) : PCalls Tryz.prog 44 [.slice (some ⟨i, 0, none⟩) 4 k] m (.int .i64 (mx4 a b c d)) :=
  PCalls.via1 (fun z => Max_c a b c d k z) h hc rfl rfl rfl rfl rfl

/-- Four numbers' least and greatest over a number. -/
abbrev bxR (p0 p1 p2 p3 q0 q1 q2 q3 d : Int) : Value := .agg #[.int .i64 (mn4 p0 p1 p2 p3 / d), .int .i64 (-(-mx4 p0 p1 p2 p3 / d)), .int .i64 (mn4 q0 q1 q2 q3 / d), .int .i64 (-(-mx4 q0 q1 q2 q3 / d))]
theorem mn4_bd {a b c d B : Int} (ha : -B ≤ a ∧ a ≤ B) (hb : -B ≤ b ∧ b ≤ B) (hc : -B ≤ c ∧ c ≤ B) (hd : -B ≤ d ∧ d ≤ B) : (-B ≤ mn4 a b c d ∧ mn4 a b c d ≤ B) ∧ -B ≤ mx4 a b c d ∧ mx4 a b c d ≤ B :=
  ⟨mn_bd (mn_bd (mn_bd ha hb) hc) hd, mx_bd (mx_bd (mx_bd ha hb) hc) hd⟩
def bU (e e' f s : Int) : Int := f * e' - s * e
def bE (u u' f s : Int) : Int := s * u - f * u'
theorem Box_neg (u e a b u' e' a' b' : Int) (h : siEE u e a b u' e' a' b' = 0) (hd : 0 < -(siD u e u' e')) (m : Mem) : PCalls Tryz.prog 17 [siV u e a b u' e' a' b'] m
    (.tuple #[bxR (1000 * -(bU e e' a a')) (1000 * -(bU e e' a b')) (1000 * -(bU e e' b a')) (1000 * -(bU e e' b b')) (1000 * -(bE u u' a a')) (1000 * -(bE u u' a b')) (1000 * -(bE u u' b a')) (1000 * -(bE u u' b b')) (-(siD u e u' e')), .int .i64 0]) := by
  obtain ⟨h1, h2⟩ := siEE_ok h
  have k1 := siE_ok h1
  have k2 := siE_ok h2
  have m1 := si_mul k1.1 k2.2.1
  have m2 := si_mul k2.1 k1.2.1
  have HB : ∀ (f s : Int), (f = a ∨ f = b) → (s = a' ∨ s = b') → ∀ m, PCalls Tryz.prog 42 [siV u e a b u' e' a' b', .int .i64 f, .int .i64 s] m (.agg #[.int .i64 (bU e e' f s), .int .i64 (bE u u' f s)]) := fun f s hf hs m => both_q u e a b u' e' a' b' f s h (by rcases hf with rfl | rfl <;> omega) (by rcases hs with rfl | rfl <;> omega) m
  have bd : ∀ (f s : Int), (f = a ∨ f = b) → (s = a' ∨ s = b') → (-4000000000000 ≤ bU e e' f s ∧ bU e e' f s ≤ 4000000000000) ∧ -4000000000000 ≤ bE u u' f s ∧ bE u u' f s ≤ 4000000000000 := fun f s hf hs => by
    have hf' : -2000000000 ≤ f ∧ f ≤ 2000000000 := by rcases hf with rfl | rfl <;> omega
    have hs' : -2000000000 ≤ s ∧ s ≤ 2000000000 := by rcases hs with rfl | rfl <;> omega
    have m1 := si_mul2 hf' k2.2.1
    have m2 := si_mul2 hs' k1.2.1
    have m3 := si_mul2 hs' k1.1
    have m4 := si_mul2 hf' k2.1
    unfold bU bE
    omega
  have H00 := HB a a' (.inl rfl) (.inl rfl)
  have H01 := HB a b' (.inl rfl) (.inr rfl)
  have H10 := HB b a' (.inr rfl) (.inl rfl)
  have H11 := HB b b' (.inr rfl) (.inr rfl)
  have b00 := bd a a' (.inl rfl) (.inl rfl)
  have b01 := bd a b' (.inl rfl) (.inr rfl)
  have b10 := bd b a' (.inr rfl) (.inl rfl)
  have b11 := bd b b' (.inr rfl) (.inr rfl)
  have HT := tracks_0 u e a b u' e' a' b' h
  have hdb : -2000000 ≤ siD u e u' e' ∧ siD u e u' e' ≤ 2000000 := by unfold siD; omega
  rw [if_neg (by omega)] at HT
  clear bd HB
  generalize siD u e u' e' = d at *
  generalize bU e e' a a' = p00 at *
  generalize bU e e' a b' = p01 at *
  generalize bU e e' b a' = p10 at *
  generalize bU e e' b b' = p11 at *
  generalize bE u u' a a' = q00 at *
  generalize bE u u' a b' = q01 at *
  generalize bE u u' b a' = q10 at *
  generalize bE u u' b b' = q11 at *
  have mb1 := mn4_bd (a := 1000 * -p00) (b := 1000 * -p01) (c := 1000 * -p10) (d := 1000 * -p11) (B := 4000000000000000) (by omega) (by omega) (by omega) (by omega)
  have mb2 := mn4_bd (a := 1000 * -q00) (b := 1000 * -q01) (c := 1000 * -q10) (d := 1000 * -q11) (B := 4000000000000000) (by omega) (by omega) (by omega) (by omega)
  have hmx : (if -d > d then -d else d) = -d := by split <;> omega
  have HF : ∀ n : Int, -4000000000000000 ≤ n ∧ n ≤ 4000000000000000 → ∀ m, PCalls Tryz.prog 39 [.int .i64 n, .int .i64 (if -d > d then -d else d)] m (.int .i64 (n / -d)) := fun n hn m => by rw [hmx]; exact floor_q n _ (by omega) (by omega) m
  have HC : ∀ n : Int, -4000000000000000 ≤ n ∧ n ≤ 4000000000000000 → ∀ m, PCalls Tryz.prog 40 [.int .i64 n, .int .i64 (if -d > d then -d else d)] m (.int .i64 (-(-n / -d))) := fun n hn m => by rw [hmx]; exact ceil_q n _ (by omega) (by omega) m
  refine PCalls.any ?_ rfl rfl m
  refine PCalls.enter (t := [siV u e a b u' e' a' b', undef, undef, undef, undef, undef, undef, undef, undef, undef, undef, undef, undef, undef, undef, undef, undef, undef, undef, undef, undef, undef, undef, undef, undef, undef, undef, undef, undef, undef, undef, undef, undef, undef, undef, undef, undef, undef, undef, undef, undef, undef, undef, undef, undef, undef, undef, undef, undef, undef, undef, undef, undef, undef, undef, undef, undef, undef, undef, undef, undef, undef, undef, undef, undef, undef, undef, undef, undef, undef, undef, undef, undef, undef, undef, undef, undef, undef, undef, undef, undef, undef, undef, undef, undef, undef, undef, undef, undef, undef, undef, undef, undef, undef, undef, undef, undef, undef, undef, undef, undef, undef]) Tryz.func17 rfl (ro_nil) rfl fun E => ?_
  repeat' (first
    | with_reducible refine Then.n ?_
    | with_reducible refine Then.r ?_
    | with_reducible refine Then.x ?_
    | with_reducible refine InB.n ?_
    | with_reducible refine InB.r ?_
    | with_reducible refine InB.hit ?_
    | with_reducible refine InB.miss (by decide) ?_
    | ((with_reducible refine AL.on ?_); first
      | ((first | ((with_reducible refine AL.k_move ?_); first | (refine AL.q rfl (OQ.move (by conv => lhs; whnf)) ?_)) | ((with_reducible refine AL.k_fieldAddr ?_); first | refine AL.q rfl (OQ.fieldA (ty := 60) (i := 0) (n := 4) (off := 0) (g := true) rfl (by kernel_rfl) (by decide)) ?_ | refine AL.q rfl (OQ.fieldA (ty := 58) (i := 2) (n := 2) (off := 2) (g := true) rfl (by kernel_rfl) (by decide)) ?_ | refine AL.q rfl (OQ.fieldA (ty := 49) (i := 0) (n := 1) (off := 0) (g := false) rfl (by kernel_rfl) (by decide)) ?_ | refine AL.q rfl (OQ.fieldA (ty := 49) (i := 1) (n := 1) (off := 1) (g := false) rfl (by kernel_rfl) (by decide)) ?_ | refine AL.q rfl (OQ.fieldA (ty := 60) (i := 1) (n := 4) (off := 4) (g := true) rfl (by kernel_rfl) (by decide)) ?_) | ((with_reducible refine AL.k_load ?_); first | refine AL.q rfl (OQ.loadN (ty := 60) (n := 8) rfl (by kernel_rfl) (by kernel_rfl) rfl) ?_ | (refine AL.q rfl (OQ.load1 (ty := 3) rfl (by kernel_rfl) (by conv => lhs; whnf)) ?_) | refine AL.q rfl (OQ.loadN (ty := 106) (n := 2) rfl (by kernel_rfl) (by kernel_rfl) rfl) ?_ | refine AL.q rfl (OQ.loadN (ty := 54) (n := 4) rfl (by kernel_rfl) (by kernel_rfl) rfl) ?_) | ((with_reducible refine AL.k_binOp ?_); first | refine AL.q rfl (OQ.neq rfl rfl) ?_ | refine AL.q rfl (OQ.lss rfl rfl) ?_ | refine AL.q rfl (OQ.addi rfl rfl (by omega)) ?_ | refine AL.q rfl (OQ.add rfl rfl) ?_) | ((with_reducible refine AL.k_assign ?_); first | (refine AL.q rfl (OQ.assign (by conv => lhs; whnf)) ?_)) | ((with_reducible refine AL.k_call ?_); first | refine AL.q rfl (OQ.max2 rfl rfl) ?_) | ((with_reducible refine AL.k_indexAddr ?_); first | refine AL.q rfl (OQ.idxPtr (ty := 107) (n := 1) (l := 2) (g := false) rfl rfl (by kernel_rfl) (by omega) (by omega)) ?_ | refine AL.q rfl (OQ.idxPtr (ty := 106) (n := 1) (l := 2) (g := false) rfl rfl (by kernel_rfl) (by omega) (by omega)) ?_ | refine AL.q rfl (OQ.idxPtr (ty := 54) (n := 2) (l := 2) (g := true) rfl rfl (by kernel_rfl) (by omega) (by omega)) ?_) | ((with_reducible refine AL.k_index ?_); first | refine AL.q rfl (OQ.idxArr1 (ty := 107) (n := 1) (l := 2) rfl rfl (by kernel_rfl) (by omega) (by omega) rfl) ?_ | refine AL.q rfl (OQ.idxArr1 (ty := 106) (n := 1) (l := 2) rfl rfl (by kernel_rfl) (by omega) (by omega) rfl) ?_) | ((with_reducible refine AL.k_unOp ?_); first | refine AL.q rfl (OQ.negi rfl (by omega)) ?_ | refine AL.q rfl (OQ.neg rfl) ?_) | ((with_reducible refine AL.k_extract ?_); first | refine AL.q rfl (OQ.extract rfl rfl) ?_)); (conv => (arg 5; try tactic => exact nrm)))
      | ((first | ((with_reducible refine AL.k_call ?_); first | refine AL.pcall (g := 41) rfl (by kernel_rfl) rfl (HT _) ?_ | refine AL.pcall (g := 42) rfl (by kernel_rfl) rfl ((by first | exact H00 _ | exact H01 _ | exact H10 _ | exact H11 _)) ?_ | refine AL.pcall (g := 43) rfl (by kernel_rfl) rfl (Min_q _ _ _ _ _ rfl rfl) ?_ | refine AL.pcall (g := 39) rfl (by kernel_rfl) rfl (HF _ (by omega) _) ?_ | refine AL.pcall (g := 44) rfl (by kernel_rfl) rfl (Max_q _ _ _ _ _ rfl rfl) ?_ | refine AL.pcall (g := 40) rfl (by kernel_rfl) rfl (HC _ (by omega) _) ?_) | ((with_reducible refine AL.k_build ?_); first | refine AL.q rfl (OQ.buildA (ty := 54) (zs := [.int .i64 0, .int .i64 0, .int .i64 0, .int .i64 0]) (n := 2) (k := 2) (g := true) (by kernel_rfl) rfl (by kernel_rfl) rfl rfl rfl) ?_ | refine AL.q rfl (OQ.buildA (ty := 107) (zs := [.int .i64 0, .int .i64 0]) (n := 1) (k := 2) (g := false) (by kernel_rfl) rfl (by kernel_rfl) rfl rfl rfl) ?_ | refine AL.q rfl (OQ.buildS (ty := 49) (zs := [.int .i64 0, .int .i64 0]) (pls := [(0, 1), (1, 1)]) (by kernel_rfl) rfl (by kernel_rfl) rfl rfl rfl) ?_)); (conv => (arg 5; try tactic => exact nrm)))
      | ((first | ((with_reducible refine AL.k_store ?_); first | (refine AL.w rfl (OW.store (ty := 54) (n := 4) rfl (by conv => lhs; whnf) rfl rfl (by kernel_rfl) rfl rfl (by decide) rfl (Nat.le_of_ble_eq_true rfl) (by intro r h; cases h)) ?_) | (refine AL.w rfl (OW.store (ty := 107) (n := 2) rfl (by conv => lhs; whnf) rfl rfl (by kernel_rfl) rfl rfl (by decide) rfl (Nat.le_of_ble_eq_true rfl) (by intro r h; cases h)) ?_) | (refine AL.w rfl (OW.store (ty := 3) (n := 1) rfl (by conv => lhs; whnf) rfl rfl (by kernel_rfl) rfl rfl (by decide) rfl (Nat.le_of_ble_eq_true rfl) (by intro r h; cases h)) ?_) | (refine AL.w rfl (OW.store (ty := 83) (n := 1) rfl (by conv => lhs; whnf) rfl rfl (by kernel_rfl) rfl rfl (by decide) rfl (Nat.le_of_ble_eq_true rfl) (by intro r h; cases h)) ?_) | (refine AL.w rfl (OW.store (ty := 49) (n := 2) rfl (by conv => lhs; whnf) rfl rfl (by kernel_rfl) rfl rfl (by decide) rfl (Nat.le_of_ble_eq_true rfl) (by intro r h; cases h)) ?_)) | ((with_reducible refine AL.k_alloc ?_); first | refine AL.w rfl (OW.alloc (ty := 54) (z := [.int .i64 0, .int .i64 0, .int .i64 0, .int .i64 0]) (by kernel_rfl) rfl) ?_ | refine AL.w rfl (OW.alloc (ty := 106) (z := [.slice none 0 0, .slice none 0 0]) (by kernel_rfl) rfl) ?_ | refine AL.w rfl (OW.alloc (ty := 107) (z := [.int .i64 0, .int .i64 0]) (by kernel_rfl) rfl) ?_) | ((with_reducible refine AL.k_box ?_); first | (refine AL.w rfl (OW.box (by conv => lhs; whnf) (by intro r h; cases h)) ?_))); (conv => (arg 5; try tactic => exact nrm)); (conv => (arg 6; try tactic => exact nrm)))
      | refine AL.nil ?_)
    | ((with_reducible refine AW.on ?_); first
      | refine AW.seq ?_
      | refine AW.skip ?_
      | refine AW.exit ?_
      | refine AW.ret ?_
      | (refine AW.block (id := 0) ?_; refine AW.unroll 3 ?_)
      | (refine AW.block (id := 2) ?_; refine AW.unroll 3 ?_)
      | (refine AW.block (id := 4) ?_; refine AW.unroll 3 ?_)
      | (refine AW.block (id := 6) ?_; refine AW.unroll 3 ?_)
      | refine AW.block ?_
      | (refine AW.drawF (id := 17) 10 #[0, 0, 2, 6, 0, 16, 48, 112, 240, 510, 1023, 2047] (by kernel_rfl) (by kernel_rfl) ?_; (conv => (arg 8; simp only [List.take_succ_cons, List.take_zero])))
      | (refine AW.region (id := 3) ?_; exfalso; omega; done)
      | refine AW.region ?_
      | (refine AW.conds rfl (fun hc => ?_) (fun hc => ?_) <;> (try simp only [decide_eq_true_eq, decide_eq_false_iff_not, Bool.not_true, Bool.not_false, Bool.not_eq_true', Bool.not_eq_false', Int.not_lt, Int.not_le, Classical.not_not, ne_eq] at hc) <;> first | (exfalso; first | contradiction | (omega); done) | skip))
    | ((with_reducible refine AF.on ?_); first
      | ((first | ((with_reducible refine AF.k_move ?_); first | (refine AF.q 0 (SW.q (OQ.move (by conv => lhs; whnf)) rfl) ?_)) | ((with_reducible refine AF.k_load ?_); first | (refine AF.ql rfl (SW.q (OQ.load1 (ty := 83) rfl (by kernel_rfl) (by conv => lhs; whnf)) rfl) ?_) | (refine AF.ql rfl (SW.q (OQ.load1 (ty := 3) rfl (by kernel_rfl) (by conv => lhs; whnf)) rfl) ?_)) | ((with_reducible refine AF.k_binOp ?_); first | refine AF.q 0 (SW.q (OQ.muli rfl rfl (by omega)) rfl) ?_ | refine AF.q 0 (SW.q (OQ.mul rfl rfl) rfl) ?_) | ((with_reducible refine AF.k_indexAddr ?_); first | refine AF.q 0 (SW.q (OQ.idxPtr (ty := 106) (n := 1) (l := 2) (g := false) rfl rfl (by kernel_rfl) (by omega) (by omega)) rfl) ?_ | refine AF.q 0 (SW.q (OQ.idxPtr (ty := 107) (n := 1) (l := 2) (g := false) rfl rfl (by kernel_rfl) (by omega) (by omega)) rfl) ?_)); (conv => (arg 9; try tactic => exact nrmF)); (conv => (arg 11; try simp only [List.nil_append, List.cons_append])))
      | ((first | ((with_reducible refine AF.k_call ?_); first | refine AF.al rfl (SW.w (by first | exact OW.appendNil (e := 3) (z := 1) (zs := [.int .i64 0]) (by' := 8) rfl rfl (by kernel_rfl) (by kernel_rfl) (by kernel_rfl) rfl (by kernel_rfl) (by decide) rfl (by decide) (by decide) | exact OW.appendL (e := 3) (z := 1) (zs := [.int .i64 0]) (by' := 8) rfl rfl (by kernel_rfl) (by kernel_rfl) (by kernel_rfl) rfl (by kernel_rfl) (by decide) rfl rfl rfl (by decide) (by rfl) rfl rfl (by omega) (by omega)) rfl) rfl ?_ | refine AF.n1 2 (SW.w (by first | exact OW.appendNil (e := 3) (z := 1) (zs := [.int .i64 0]) (by' := 8) rfl rfl (by kernel_rfl) (by kernel_rfl) (by kernel_rfl) rfl (by kernel_rfl) (by decide) rfl (by decide) (by decide) | exact OW.appendL (e := 3) (z := 1) (zs := [.int .i64 0]) (by' := 8) rfl rfl (by kernel_rfl) (by kernel_rfl) (by kernel_rfl) rfl (by kernel_rfl) (by decide) rfl rfl rfl (by decide) (by rfl) rfl rfl (by omega) (by omega)) rfl) rfl ?_) | ((with_reducible refine AF.k_buildSlice ?_); first | refine AF.n1 0 (SW.w (OW.buildSl (ty := 83) (zs := [.int .i64 0]) (n := 1) (g := false) (by kernel_rfl) (by kernel_rfl) rfl rfl rfl (by decide) (by decide) rfl rfl) rfl) rfl ?_)); (conv => (arg 9; try tactic => exact nrmF)); (conv => (arg 11; try simp only [List.nil_append, List.cons_append])); (conv => (arg 10; try tactic => exact nrmF)))
      | (refine AF.nil ?_ (by kernel_rfl); (conv => (arg 4; simp only [List.drop_succ_cons, List.drop_zero, List.drop_nil]))))
    | with_reducible refine AR.s ?_
    | ((with_reducible refine AR.out ?_); omega; done)
    | ((with_reducible refine FinP.on ?_); (first | refine FinP.ret (.cellN (n := 4) (by conv => lhs; whnf) (by kernel_rfl) (by kernel_rfl) rfl (.tmp (by conv => lhs; whnf) .nil)) ?_ rfl | refine FinP.end (.cellN (n := 4) (by conv => lhs; whnf) (by kernel_rfl) (by kernel_rfl) rfl (.tmp (by conv => lhs; whnf) .nil)) ?_ rfl); (try simp only [pack, List.drop, List.take]); all_goals (rfl)))
end Go.Proofs.YtmghmmmfdbafoaaGreatDoor
