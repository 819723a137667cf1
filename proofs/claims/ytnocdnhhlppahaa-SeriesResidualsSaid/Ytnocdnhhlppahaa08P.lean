/- Predicted of both sides. -/
import Derived.Test.Ytnocdnhhlppahaa08R
import Derived.Test.Ytnocdnhhlppahaa08w
set_option linter.unusedSimpArgs false
set_option linter.unusedVariables false
namespace Go.Proofs.Ytnocdnhhlppahaa
open Go Go.RowKit Go.Ab Go.Sr
set_option maxRecDepth 100000
set_option maxHeartbeats 4000000
attribute [local irreducible] OQ OW AL AW AD AF SW

abbrev z2 : Value := .agg #[.int .i64 0, .int .i64 0]
/-- What is predicted: the numerator. -/
def pdN (l : List Ep) (d b : Int) : Int := fitF (NM l) 0 * (d - (ep l 0).d) + fitF (NM l) 1 * b + fitF (NM l) 2 * 1
def pdOk (l : List Ep) (d b : Int) : Bool := rngB d (ep l 0).d ((ep l 0).d + 400) && rngB b (-100) 100
def pdV (l : List Ep) (d b : Int) : Value := if pdOk l d b = true ∧ (NM l).det ≠ 0 then frV (pdN l d b) (NM l).det else z2
def pdE (l : List Ep) (d b : Int) : Int := if pdOk l d b = true then if (NM l).det = 0 then 30 else frE (pdN l d b) (NM l).det else 2
theorem frV_form (n d : Int) : ∃ p q : Int, frV n d = .agg #[.int .i64 p, .int .i64 q] := by
  unfold frV
  split
  · exact ⟨_, _, rfl⟩
  · exact ⟨_, _, rfl⟩
theorem pdV_form (l : List Ep) (d b : Int) : ∃ p q : Int, pdV l d b = .agg #[.int .i64 p, .int .i64 q] := by
  unfold pdV
  split
  · exact frV_form _ _
  · exact ⟨_, _, rfl⟩
theorem pd_bd {l : List Ep} (h : SRight l) {d b : Int} (hok : pdOk l d b = true) : (0 ≤ d - (ep l 0).d ∧ d - (ep l 0).d ≤ 400) ∧ (-100 ≤ b ∧ b ≤ 100) ∧
    (-3000000000000000000 ≤ fitF (NM l) 0 * (d - (ep l 0).d) ∧ fitF (NM l) 0 * (d - (ep l 0).d) ≤ 3000000000000000000) ∧ (-3000000000000000000 ≤ fitF (NM l) 1 * b ∧ fitF (NM l) 1 * b ≤ 3000000000000000000) ∧ (-3000000000000000000 ≤ fitF (NM l) 2 * 1 ∧ fitF (NM l) 2 * 1 ≤ 3000000000000000000) := by
  unfold pdOk at hok
  rw [Bool.and_eq_true, rngB_true, rngB_true] at hok
  have := rsd_bd (N := NM l) (r := ⟨d - (ep l 0).d, b, 1, 0⟩) (rws_sb' h) ⟨by simp only; omega, hok.2, by simp, by simp⟩
  simp only at this
  omega
section
variable {l : List Ep} {nm : ByteArray}
theorem Predicted_e {m : Mem} {v : Value} (d b c : Int) (hS : SlE m v l) (hn : nm.size ≤ 1000) (hl : l.length ≤ 1000) (hc : srE nm.data.toList l = c) (hc0 : c ≠ 0) :
    PCalls Try.prog 45 [srV nm v, .int .i64 d, .int .i64 b] m (.tuple #[z2, .int .i64 c]) := by
  have HC := fun (m : Mem) (v : Value) (hS : SlE m v l) => CheckSeries_q nm hS hn hl
  rw [hc] at HC
  refine Sh.up (us := [_, _]) hS rfl rfl fun v m0 h => ?_
  have hro := h.ro
  rcases h with ⟨rfl, rfl, h3⟩ | ⟨rfl, rfl, h3⟩ | ⟨z, rfl, rfl⟩
  all_goals
    refine PCalls.enter (t := [srV nm _, .int .i64 d, .int .i64 b, undef, undef, undef, undef, undef, undef, undef, undef, undef, undef, undef, undef, undef, undef, undef, undef, undef, undef, undef, undef, undef, undef, undef, undef, undef, undef, undef, undef, undef, undef, undef, undef, undef, undef, undef, undef, undef, undef, undef, undef, undef, undef, undef, undef, undef, undef, undef, undef, undef, undef, undef, undef, undef, undef, undef, undef, undef, undef, undef, undef]) Try.func45 rfl (hro) rfl fun E => ?_
    repeat' (first
      | with_reducible refine Then.n ?_
      | with_reducible refine Then.r ?_
      | with_reducible refine Then.x ?_
      | with_reducible refine InB.n ?_
      | with_reducible refine InB.r ?_
      | with_reducible refine InB.hit ?_
      | with_reducible refine InB.miss (by decide) ?_
      | ((with_reducible refine AL.on ?_); first
        | (refine AL.gd rfl ?_; first | (refine AL.gskip rfl rfl ?_; (conv => (arg 5; try tactic => exact nrm))) | (refine AL.gs1 rfl rfl (fun hc => ?_) (fun hc => ?_) <;> (try simp only [decide_eq_true_eq, decide_eq_false_iff_not, Bool.not_true, Bool.not_false, Bool.not_eq_true', Bool.not_eq_false', Int.not_lt, Int.not_le, Classical.not_not, ne_eq] at hc) <;> first | (exfalso; first | contradiction | (omega); done) | (conv => (arg 5; try tactic => exact nrm))) | (refine AL.gs0 rfl rfl (fun hc => ?_) (fun hc => ?_) <;> (try simp only [decide_eq_true_eq, decide_eq_false_iff_not, Bool.not_true, Bool.not_false, Bool.not_eq_true', Bool.not_eq_false', Int.not_lt, Int.not_le, Classical.not_not, ne_eq] at hc) <;> first | (exfalso; first | contradiction | (omega); done) | (conv => (arg 5; try tactic => exact nrm))))
        | ((first | ((with_reducible refine AL.k_move ?_); first | (refine AL.q rfl (OQ.move (by conv => lhs; whnf)) ?_)) | ((with_reducible refine AL.k_assign ?_); first | (refine AL.q rfl (OQ.assign (by conv => lhs; whnf)) ?_)) | ((with_reducible refine AL.k_load ?_); first | refine AL.q rfl (OQ.loadN (ty := 24) (n := 2) rfl (by kernel_rfl) (by kernel_rfl) rfl) ?_ | (refine AL.q rfl (OQ.load1 (ty := 22) rfl (by kernel_rfl) (by conv => lhs; whnf)) ?_) | (refine AL.q rfl (OQ.load1 (ty := 3) rfl (by kernel_rfl) (by conv => lhs; whnf)) ?_)) | ((with_reducible refine AL.k_extract ?_); first | refine AL.q rfl (OQ.extract rfl rfl) ?_) | ((with_reducible refine AL.k_binOp ?_); first | refine AL.q rfl (OQ.neq rfl rfl) ?_ | refine AL.q rfl (OQ.addi rfl rfl (by omega)) ?_ | refine AL.q rfl (OQ.add rfl rfl) ?_) | ((with_reducible refine AL.k_fieldAddr ?_); first | refine AL.q rfl (OQ.fieldA (ty := 24) (i := 1) (n := 1) (off := 1) (g := false) rfl (by kernel_rfl) (by decide)) ?_ | refine AL.q rfl (OQ.fieldA (ty := 85) (i := 0) (n := 1) (off := 0) (g := false) rfl (by kernel_rfl) (by decide)) ?_) | ((with_reducible refine AL.k_indexAddr ?_); first | refine AL.q rfl (OQ.idxAddr (ty := 22) (z := 4) (g := true) rfl rfl (by kernel_rfl) (by omega) (by omega)) ?_) | ((with_reducible refine AL.k_unOp ?_); first | refine AL.q rfl (OQ.not rfl) ?_) | ((with_reducible refine AL.k_pick ?_); first | (refine AL.q rfl (OQ.pickT rfl (by with_reducible rfl) (by conv => lhs; whnf)) ?_) | (refine AL.q rfl (OQ.pickF rfl (by with_reducible rfl) (by conv => lhs; whnf)) ?_))); (conv => (arg 5; try tactic => exact nrm)))
        | ((first | ((with_reducible refine AL.k_call ?_); first | refine AL.pcall (g := 99) rfl (by kernel_rfl) rfl ((by first | exact HC _ _ (.blk 0 _ rfl rfl rfl) | exact HC _ _ (.nil h3 rfl) | exact HC _ _ (.lost h3 rfl))) ?_) | ((with_reducible refine AL.k_build ?_); first | refine AL.q rfl (OQ.buildS (ty := 28) (zs := [.int .i64 0, .int .i64 0]) (pls := [(0, 1), (1, 1)]) (by kernel_rfl) rfl (by kernel_rfl) rfl rfl rfl) ?_)); (conv => (arg 5; try tactic => exact nrm)))
        | ((first | ((with_reducible refine AL.k_store ?_); first | (refine AL.w rfl (OW.store (ty := 28) (n := 2) rfl (by conv => lhs; whnf) rfl rfl (by kernel_rfl) rfl rfl (by decide) rfl (Nat.le_of_ble_eq_true rfl) (by intro r h; cases h)) ?_) | (refine AL.w rfl (OW.store (ty := 134) (n := 2) rfl (by conv => lhs; whnf) rfl rfl (by kernel_rfl) rfl rfl (by decide) rfl (Nat.le_of_ble_eq_true rfl) (by intro r h; cases h)) ?_) | (refine AL.w rfl (OW.store (ty := 137) (n := 12) rfl (by conv => lhs; whnf) rfl rfl (by kernel_rfl) rfl rfl (by decide) rfl (Nat.le_of_ble_eq_true rfl) (by intro r h; cases h)) ?_)) | ((with_reducible refine AL.k_alloc ?_); first | refine AL.w rfl (OW.alloc (ty := 28) (z := [.int .i64 0, .int .i64 0]) (by kernel_rfl) rfl) ?_ | refine AL.w rfl (OW.alloc (ty := 134) (z := [.slice none 0 0, .slice none 0 0]) (by kernel_rfl) rfl) ?_ | refine AL.w rfl (OW.alloc (ty := 137) (z := [.int .i64 0, .int .i64 0, .int .i64 0, .int .i64 0, .int .i64 0, .int .i64 0, .int .i64 0, .int .i64 0, .int .i64 0, .int .i64 0, .int .i64 0, .int .i64 0]) (by kernel_rfl) rfl) ?_) | ((with_reducible refine AL.k_box ?_); first | (refine AL.w rfl (OW.box (by conv => lhs; whnf) (by intro r h; cases h)) ?_))); (conv => (arg 5; try tactic => exact nrm)); (conv => (arg 6; try tactic => exact nrm)))
        | (refine AL.bs rfl (fun hc => ?_) (fun hc => ?_) <;> (fail_if_success (with_reducible exact lit_no hc)) <;> (try simp only [decide_eq_true_eq, decide_eq_false_iff_not, Bool.not_true, Bool.not_false, Bool.not_eq_true', Bool.not_eq_false', Int.not_lt, Int.not_le, Classical.not_not, ne_eq] at hc) <;> first | (exfalso; first | contradiction | (omega); done) | (conv => (arg 5; try tactic => exact nrm)))
        | refine AL.nil ?_)
      | ((with_reducible refine AW.on ?_); first
        | refine AW.seq ?_
        | refine AW.skip ?_
        | refine AW.exit ?_
        | refine AW.ret ?_
        | refine AW.block ?_
        | (refine AW.draw (id := 10) 17 #[0, 1, 0, 0, 8, 24, 56, 120, 252, 0, 1020, 2047, 0, 8191, 16383, 32767, 32767, 131071, 262143] (by kernel_rfl) (by kernel_rfl) ?_; (conv => (arg 8; simp only [List.take_succ_cons, List.take_zero])))
        | (refine AW.region (id := 4) ?_; exfalso; omega; done)
        | refine AW.region ?_
        | (refine AW.conds rfl (fun hc => ?_) (fun hc => ?_) <;> (try simp only [decide_eq_true_eq, decide_eq_false_iff_not, Bool.not_true, Bool.not_false, Bool.not_eq_true', Bool.not_eq_false', Int.not_lt, Int.not_le, Classical.not_not, ne_eq] at hc) <;> first | (exfalso; first | contradiction | (omega); done) | skip))
      | ((with_reducible refine AD.on ?_); first
        | ((first | ((with_reducible refine AD.k_move ?_); first | (refine AD.q rfl (OQ.move (by conv => lhs; whnf)) rfl rfl rfl ?_)) | ((with_reducible refine AD.k_load ?_); first | refine AD.q rfl (OQ.loadN (ty := 137) (n := 12) rfl (by kernel_rfl) (by kernel_rfl) rfl) rfl rfl rfl ?_ | (refine AD.q rfl (OQ.load1 (ty := 22) rfl (by kernel_rfl) (by conv => lhs; whnf)) rfl rfl rfl ?_) | (refine AD.q rfl (OQ.load1 (ty := 3) rfl (by kernel_rfl) (by conv => lhs; whnf)) rfl rfl rfl ?_)) | ((with_reducible refine AD.k_extract ?_); first | refine AD.q rfl (OQ.extract rfl rfl) rfl rfl rfl ?_) | ((with_reducible refine AD.k_fieldAddr ?_); first | refine AD.q rfl (OQ.fieldA (ty := 24) (i := 1) (n := 1) (off := 1) (g := false) rfl (by kernel_rfl) (by decide)) rfl rfl rfl ?_ | refine AD.q rfl (OQ.fieldA (ty := 85) (i := 0) (n := 1) (off := 0) (g := false) rfl (by kernel_rfl) (by decide)) rfl rfl rfl ?_) | ((with_reducible refine AD.k_binOp ?_); first | refine AD.q rfl (OQ.subi rfl rfl (by omega)) rfl rfl rfl ?_ | refine AD.q rfl (OQ.sub rfl rfl) rfl rfl rfl ?_) | ((with_reducible refine AD.k_indexAddr ?_); first | refine AD.q rfl (OQ.idxAddr (ty := 22) (z := 4) (g := true) rfl rfl (by kernel_rfl) (by omega) (by omega)) rfl rfl rfl ?_)); (conv => (arg 10; try tactic => exact nrm)))
        | ((first | first | refine AD.q rfl (OQ.buildA (ty := 65) (zs := [.int .i64 0, .int .i64 0, .int .i64 0]) (n := 1) (k := 3) (g := false) (by kernel_rfl) rfl (by kernel_rfl) rfl rfl rfl) rfl rfl rfl ?_); (conv => (arg 10; try tactic => exact nrm)))
        | (refine AD.nil ?_; (conv => (arg 4; simp only [List.drop_succ_cons, List.drop_zero, List.drop_nil])); (conv => (arg 5; try tactic => exact nrm)); (conv => (arg 6; try tactic => exact nrm))))
      | ((with_reducible refine FinP.on ?_); (first | refine FinP.ret (.cellN (n := 2) (by conv => lhs; whnf) (by kernel_rfl) (by kernel_rfl) rfl (.tmp (by conv => lhs; whnf) .nil)) ?_ rfl | refine FinP.end (.cellN (n := 2) (by conv => lhs; whnf) (by kernel_rfl) (by kernel_rfl) rfl (.tmp (by conv => lhs; whnf) .nil)) ?_ rfl); (try simp only [pack, List.drop, List.take]); all_goals (rfl)))
theorem Predicted_c (hn : nm.size ≤ 1000) (hR : SRight l) (hN : nameB nm.data.toList = true) (d b : Int) (z0 : Nat) : PCalls Try.prog 45 [srI nm 0 l.length, .int .i64 d, .int .i64 b] [some ⟨flatE l, false, z0⟩] (.tuple #[pdV l d b, .int .i64 (pdE l d b)]) := by
  have hn1 := hR.n1
  have hn2 := hR.n20
  have HC := CheckSeries_0 hn hR hN
  have HR := fun (m : Mem) (b : Nat) (blk : Blk) (hb : m.at b = some blk) (hc : blk.cells = flatE l) => solvable_q hn hR hN hb hc rfl
  have hnb := (rws_sb hR).nb
  have HD := fun m => det_q (NM l) hnb m
  have HT := fun m => fit_q (NM l) hnb m
  have h0 := flatE_get0 l hn1
  have hb0 := hR.bd 0 hn1
  have H1 := within_q d (ep l 0).d ((ep l 0).d + 400)
  have H2 := small_q b 100 (by decide)
  have hdet := hnb.detb
  rw [show Go.Sr.nm (rws l) = NM l from rfl] at hdet
  cases hok : pdOk l d b with
  | false =>
    rw [show pdV l d b = z2 by simp [pdV, hok], show pdE l d b = 2 by simp [pdE, hok]]
    unfold pdOk at hok
    generalize rngB d (ep l 0).d ((ep l 0).d + 400) = b1 at *
    generalize rngB b (-100) 100 = b2 at *
    refine PCalls.enter (t := [srI nm 0 l.length, .int .i64 d, .int .i64 b, undef, undef, undef, undef, undef, undef, undef, undef, undef, undef, undef, undef, undef, undef, undef, undef, undef, undef, undef, undef, undef, undef, undef, undef, undef, undef, undef, undef, undef, undef, undef, undef, undef, undef, undef, undef, undef, undef, undef, undef, undef, undef, undef, undef, undef, undef, undef, undef, undef, undef, undef, undef, undef, undef, undef, undef, undef, undef, undef, undef]) Try.func45 rfl (ro1 _ rfl) rfl fun E => ?_
    repeat' (first
      | with_reducible refine Then.n ?_
      | with_reducible refine Then.r ?_
      | with_reducible refine Then.x ?_
      | with_reducible refine InB.n ?_
      | with_reducible refine InB.r ?_
      | with_reducible refine InB.hit ?_
      | with_reducible refine InB.miss (by decide) ?_
      | ((with_reducible refine AL.on ?_); first
        | (refine AL.gd rfl ?_; first | (refine AL.gskip rfl rfl ?_; (conv => (arg 5; try tactic => exact nrm))) | (refine AL.gs1 rfl rfl (fun hc => ?_) (fun hc => ?_) <;> (try simp only [decide_eq_true_eq, decide_eq_false_iff_not, Bool.not_true, Bool.not_false, Bool.not_eq_true', Bool.not_eq_false', Int.not_lt, Int.not_le, Classical.not_not, ne_eq] at hc) <;> first | (exfalso; first | contradiction | (first | omega | (simp_all; done)); done) | (conv => (arg 5; try tactic => exact nrm))) | (refine AL.gs0 rfl rfl (fun hc => ?_) (fun hc => ?_) <;> (try simp only [decide_eq_true_eq, decide_eq_false_iff_not, Bool.not_true, Bool.not_false, Bool.not_eq_true', Bool.not_eq_false', Int.not_lt, Int.not_le, Classical.not_not, ne_eq] at hc) <;> first | (exfalso; first | contradiction | (first | omega | (simp_all; done)); done) | (conv => (arg 5; try tactic => exact nrm))))
        | ((first | ((with_reducible refine AL.k_move ?_); first | (refine AL.q rfl (OQ.move (by conv => lhs; whnf)) ?_)) | ((with_reducible refine AL.k_assign ?_); first | (refine AL.q rfl (OQ.assign (by conv => lhs; whnf)) ?_)) | ((with_reducible refine AL.k_load ?_); first | refine AL.q rfl (OQ.loadN (ty := 24) (n := 2) rfl (by kernel_rfl) (by kernel_rfl) (by first | (exact h0) | rfl)) ?_ | (refine AL.q rfl (OQ.load1 (ty := 22) rfl (by kernel_rfl) (by first | (exact h0) | (conv => lhs; whnf))) ?_) | (refine AL.q rfl (OQ.load1 (ty := 3) rfl (by kernel_rfl) (by first | (exact h0) | (conv => lhs; whnf))) ?_)) | ((with_reducible refine AL.k_extract ?_); first | refine AL.q rfl (OQ.extract rfl rfl) ?_) | ((with_reducible refine AL.k_binOp ?_); first | refine AL.q rfl (OQ.neq rfl rfl) ?_ | refine AL.q rfl (OQ.addi rfl rfl (by omega)) ?_ | refine AL.q rfl (OQ.add rfl rfl) ?_) | ((with_reducible refine AL.k_unOp ?_); first | refine AL.q rfl (OQ.not rfl) ?_) | ((with_reducible refine AL.k_pick ?_); first | (refine AL.q rfl (OQ.pickT rfl (by with_reducible rfl) (by conv => lhs; whnf)) ?_) | (refine AL.q rfl (OQ.pickF rfl (by with_reducible rfl) (by conv => lhs; whnf)) ?_))); (conv => (arg 5; try tactic => exact nrm)))
        | ((first | ((with_reducible refine AL.k_call ?_); first | refine AL.pcall (g := 99) rfl (by kernel_rfl) rfl (HC _ _ (.blk 0 _ rfl rfl rfl)) ?_ | refine AL.pcall (g := 94) rfl (by kernel_rfl) rfl (H1 _) ?_ | refine AL.pcall (g := 89) rfl (by kernel_rfl) rfl (H2 _) ?_) | ((with_reducible refine AL.k_build ?_); first | refine AL.q rfl (OQ.buildS (ty := 28) (zs := [.int .i64 0, .int .i64 0]) (pls := [(0, 1), (1, 1)]) (by kernel_rfl) rfl (by kernel_rfl) rfl rfl rfl) ?_) | ((with_reducible refine AL.k_fieldAddr ?_); first | refine AL.q rfl (OQ.fieldA (ty := 24) (i := 1) (n := 1) (off := 1) (g := false) rfl (by kernel_rfl) (by decide)) ?_ | refine AL.q rfl (OQ.fieldA (ty := 85) (i := 0) (n := 1) (off := 0) (g := false) rfl (by kernel_rfl) (by decide)) ?_) | ((with_reducible refine AL.k_indexAddr ?_); first | refine AL.q rfl (OQ.idxAddr (ty := 22) (z := 4) (g := true) rfl rfl (by kernel_rfl) (by omega) (by omega)) ?_)); (conv => (arg 5; try tactic => exact nrm)))
        | ((first | ((with_reducible refine AL.k_store ?_); first | (refine AL.w rfl (OW.store (ty := 28) (n := 2) rfl (by conv => lhs; whnf) rfl rfl (by kernel_rfl) rfl rfl (by decide) rfl (Nat.le_of_ble_eq_true rfl) (by intro r h; cases h)) ?_) | (refine AL.w rfl (OW.store (ty := 134) (n := 2) rfl (by conv => lhs; whnf) rfl rfl (by kernel_rfl) rfl rfl (by decide) rfl (Nat.le_of_ble_eq_true rfl) (by intro r h; cases h)) ?_) | (refine AL.w rfl (OW.store (ty := 137) (n := 12) rfl (by conv => lhs; whnf) rfl rfl (by kernel_rfl) rfl rfl (by decide) rfl (Nat.le_of_ble_eq_true rfl) (by intro r h; cases h)) ?_)) | ((with_reducible refine AL.k_alloc ?_); first | refine AL.w rfl (OW.alloc (ty := 28) (z := [.int .i64 0, .int .i64 0]) (by kernel_rfl) rfl) ?_ | refine AL.w rfl (OW.alloc (ty := 134) (z := [.slice none 0 0, .slice none 0 0]) (by kernel_rfl) rfl) ?_ | refine AL.w rfl (OW.alloc (ty := 137) (z := [.int .i64 0, .int .i64 0, .int .i64 0, .int .i64 0, .int .i64 0, .int .i64 0, .int .i64 0, .int .i64 0, .int .i64 0, .int .i64 0, .int .i64 0, .int .i64 0]) (by kernel_rfl) rfl) ?_) | ((with_reducible refine AL.k_box ?_); first | (refine AL.w rfl (OW.box (by conv => lhs; whnf) (by intro r h; cases h)) ?_))); (conv => (arg 5; try tactic => exact nrm)); (conv => (arg 6; try tactic => exact nrm)))
        | (refine AL.bs rfl (fun hc => ?_) (fun hc => ?_) <;> (fail_if_success (with_reducible exact lit_no hc)) <;> (try simp only [decide_eq_true_eq, decide_eq_false_iff_not, Bool.not_true, Bool.not_false, Bool.not_eq_true', Bool.not_eq_false', Int.not_lt, Int.not_le, Classical.not_not, ne_eq] at hc) <;> first | (exfalso; first | contradiction | (first | omega | (simp_all; done)); done) | (conv => (arg 5; try tactic => exact nrm)))
        | refine AL.nil ?_)
      | ((with_reducible refine AW.on ?_); first
        | refine AW.seq ?_
        | refine AW.skip ?_
        | refine AW.exit ?_
        | refine AW.ret ?_
        | refine AW.block ?_
        | (refine AW.draw (id := 10) 17 #[0, 1, 0, 0, 8, 24, 56, 120, 252, 0, 1020, 2047, 0, 8191, 16383, 32767, 32767, 131071, 262143] (by kernel_rfl) (by kernel_rfl) ?_; (conv => (arg 8; simp only [List.take_succ_cons, List.take_zero])))
        | (refine AW.region (id := 3) ?_; exfalso; first | omega | (simp_all; done); done)
        | (refine AW.region (id := 7) ?_; exfalso; first | omega | (simp_all; done); done)
        | refine AW.region ?_
        | (refine AW.conds rfl (fun hc => ?_) (fun hc => ?_) <;> (try simp only [decide_eq_true_eq, decide_eq_false_iff_not, Bool.not_true, Bool.not_false, Bool.not_eq_true', Bool.not_eq_false', Int.not_lt, Int.not_le, Classical.not_not, ne_eq] at hc) <;> first | (exfalso; first | contradiction | (first | omega | (simp_all; done)); done) | skip))
      | ((with_reducible refine AD.on ?_); first
        | ((first | ((with_reducible refine AD.k_move ?_); first | (refine AD.q rfl (OQ.move (by conv => lhs; whnf)) rfl rfl rfl ?_)) | ((with_reducible refine AD.k_load ?_); first | refine AD.q rfl (OQ.loadN (ty := 137) (n := 12) rfl (by kernel_rfl) (by kernel_rfl) (by first | (exact h0) | rfl)) rfl rfl rfl ?_ | (refine AD.q rfl (OQ.load1 (ty := 22) rfl (by kernel_rfl) (by first | (exact h0) | (conv => lhs; whnf))) rfl rfl rfl ?_) | (refine AD.q rfl (OQ.load1 (ty := 3) rfl (by kernel_rfl) (by first | (exact h0) | (conv => lhs; whnf))) rfl rfl rfl ?_)) | ((with_reducible refine AD.k_extract ?_); first | refine AD.q rfl (OQ.extract rfl rfl) rfl rfl rfl ?_) | ((with_reducible refine AD.k_binOp ?_); first | refine AD.q rfl (OQ.subi rfl rfl (by omega)) rfl rfl rfl ?_ | refine AD.q rfl (OQ.sub rfl rfl) rfl rfl rfl ?_)); (conv => (arg 10; try tactic => exact nrm)))
        | ((first | ((with_reducible refine AD.k_fieldAddr ?_); first | refine AD.q rfl (OQ.fieldA (ty := 24) (i := 1) (n := 1) (off := 1) (g := false) rfl (by kernel_rfl) (by decide)) rfl rfl rfl ?_ | refine AD.q rfl (OQ.fieldA (ty := 85) (i := 0) (n := 1) (off := 0) (g := false) rfl (by kernel_rfl) (by decide)) rfl rfl rfl ?_) | ((with_reducible refine AD.k_build ?_); first | refine AD.q rfl (OQ.buildA (ty := 65) (zs := [.int .i64 0, .int .i64 0, .int .i64 0]) (n := 1) (k := 3) (g := false) (by kernel_rfl) rfl (by kernel_rfl) rfl rfl rfl) rfl rfl rfl ?_) | ((with_reducible refine AD.k_indexAddr ?_); first | refine AD.q rfl (OQ.idxAddr (ty := 22) (z := 4) (g := true) rfl rfl (by kernel_rfl) (by omega) (by omega)) rfl rfl rfl ?_)); (conv => (arg 10; try tactic => exact nrm)))
        | (refine AD.nil ?_; (conv => (arg 4; simp only [List.drop_succ_cons, List.drop_zero, List.drop_nil])); (conv => (arg 5; try tactic => exact nrm)); (conv => (arg 6; try tactic => exact nrm))))
      | ((with_reducible refine FinP.on ?_); (first | refine FinP.ret (.cellN (n := 2) (by conv => lhs; whnf) (by kernel_rfl) (by kernel_rfl) rfl (.tmp (by conv => lhs; whnf) .nil)) ?_ rfl | refine FinP.end (.cellN (n := 2) (by conv => lhs; whnf) (by kernel_rfl) (by kernel_rfl) rfl (.tmp (by conv => lhs; whnf) .nil)) ?_ rfl); (try simp only [pack, List.drop, List.take]); all_goals (rfl)))
  | true =>
    obtain ⟨k1, k2, k3, k4, k5⟩ := pd_bd hR hok
    have HM := fun (m : Mem) => times_q (fitF (NM l) 0) (fitF (NM l) 1) (fitF (NM l) 2) (d - (ep l 0).d) b 1 k3 k4 k5 m
    have HF := fun (h0 : (NM l).det ≠ 0) (m : Mem) => frac_q (fitF (NM l) 0 * (d - (ep l 0).d) + fitF (NM l) 1 * b + fitF (NM l) 2 * 1) (NM l).det (by omega) (by omega) h0 m
    have hok' := hok
    unfold pdOk at hok'
    rw [Bool.and_eq_true] at hok'
    rw [hok'.1] at H1
    rw [hok'.2] at H2
    by_cases hd0 : (NM l).det = 0
    · rw [show pdV l d b = z2 by simp [pdV, hd0], show pdE l d b = 30 by simp [pdE, hok, hd0]]
      rw [if_pos hd0] at HR
      refine PCalls.enter (t := [srI nm 0 l.length, .int .i64 d, .int .i64 b, undef, undef, undef, undef, undef, undef, undef, undef, undef, undef, undef, undef, undef, undef, undef, undef, undef, undef, undef, undef, undef, undef, undef, undef, undef, undef, undef, undef, undef, undef, undef, undef, undef, undef, undef, undef, undef, undef, undef, undef, undef, undef, undef, undef, undef, undef, undef, undef, undef, undef, undef, undef, undef, undef, undef, undef, undef, undef, undef, undef]) Try.func45 rfl (ro1 _ rfl) rfl fun E => ?_
      repeat' (first
        | with_reducible refine Then.n ?_
        | with_reducible refine Then.r ?_
        | with_reducible refine Then.x ?_
        | with_reducible refine InB.n ?_
        | with_reducible refine InB.r ?_
        | with_reducible refine InB.hit ?_
        | with_reducible refine InB.miss (by decide) ?_
        | ((with_reducible refine AL.on ?_); first
          | (refine AL.gd rfl ?_; first | (refine AL.gskip rfl rfl ?_; (conv => (arg 5; try tactic => exact nrm))) | (refine AL.gs1 rfl rfl (fun hc => ?_) (fun hc => ?_) <;> (try simp only [decide_eq_true_eq, decide_eq_false_iff_not, Bool.not_true, Bool.not_false, Bool.not_eq_true', Bool.not_eq_false', Int.not_lt, Int.not_le, Classical.not_not, ne_eq] at hc) <;> first | (exfalso; first | contradiction | (first | omega | (simp_all; done)); done) | (conv => (arg 5; try tactic => exact nrm))) | (refine AL.gs0 rfl rfl (fun hc => ?_) (fun hc => ?_) <;> (try simp only [decide_eq_true_eq, decide_eq_false_iff_not, Bool.not_true, Bool.not_false, Bool.not_eq_true', Bool.not_eq_false', Int.not_lt, Int.not_le, Classical.not_not, ne_eq] at hc) <;> first | (exfalso; first | contradiction | (first | omega | (simp_all; done)); done) | (conv => (arg 5; try tactic => exact nrm))))
          | ((first | ((with_reducible refine AL.k_move ?_); first | (refine AL.q rfl (OQ.move (by conv => lhs; whnf)) ?_)) | ((with_reducible refine AL.k_assign ?_); first | (refine AL.q rfl (OQ.assign (by conv => lhs; whnf)) ?_)) | ((with_reducible refine AL.k_load ?_); first | refine AL.q rfl (OQ.loadN (ty := 24) (n := 2) rfl (by kernel_rfl) (by kernel_rfl) (by first | (exact h0) | rfl)) ?_ | (refine AL.q rfl (OQ.load1 (ty := 22) rfl (by kernel_rfl) (by first | (exact h0) | (conv => lhs; whnf))) ?_) | (refine AL.q rfl (OQ.load1 (ty := 3) rfl (by kernel_rfl) (by first | (exact h0) | (conv => lhs; whnf))) ?_)) | ((with_reducible refine AL.k_extract ?_); first | refine AL.q rfl (OQ.extract rfl rfl) ?_) | ((with_reducible refine AL.k_binOp ?_); first | refine AL.q rfl (OQ.neq rfl rfl) ?_ | refine AL.q rfl (OQ.addi rfl rfl (by omega)) ?_ | refine AL.q rfl (OQ.add rfl rfl) ?_) | ((with_reducible refine AL.k_unOp ?_); first | refine AL.q rfl (OQ.not rfl) ?_) | ((with_reducible refine AL.k_pick ?_); first | (refine AL.q rfl (OQ.pickT rfl (by with_reducible rfl) (by conv => lhs; whnf)) ?_) | (refine AL.q rfl (OQ.pickF rfl (by with_reducible rfl) (by conv => lhs; whnf)) ?_))); (conv => (arg 5; try tactic => exact nrm)))
          | ((first | ((with_reducible refine AL.k_call ?_); first | refine AL.pcall (g := 99) rfl (by kernel_rfl) rfl (HC _ _ (.blk 0 _ rfl rfl rfl)) ?_ | refine AL.pcall (g := 94) rfl (by kernel_rfl) rfl (H1 _) ?_ | refine AL.pcall (g := 89) rfl (by kernel_rfl) rfl (H2 _) ?_) | ((with_reducible refine AL.k_build ?_); first | refine AL.q rfl (OQ.buildS (ty := 28) (zs := [.int .i64 0, .int .i64 0]) (pls := [(0, 1), (1, 1)]) (by kernel_rfl) rfl (by kernel_rfl) rfl rfl rfl) ?_) | ((with_reducible refine AL.k_fieldAddr ?_); first | refine AL.q rfl (OQ.fieldA (ty := 24) (i := 1) (n := 1) (off := 1) (g := false) rfl (by kernel_rfl) (by decide)) ?_ | refine AL.q rfl (OQ.fieldA (ty := 85) (i := 0) (n := 1) (off := 0) (g := false) rfl (by kernel_rfl) (by decide)) ?_) | ((with_reducible refine AL.k_indexAddr ?_); first | refine AL.q rfl (OQ.idxAddr (ty := 22) (z := 4) (g := true) rfl rfl (by kernel_rfl) (by omega) (by omega)) ?_)); (conv => (arg 5; try tactic => exact nrm)))
          | ((first | ((with_reducible refine AL.k_call ?_); first | refine AL.acall (g := 68) rfl (by kernel_rfl) rfl ((by exact HR _ 0 _ rfl rfl)) ?_) | ((with_reducible refine AL.k_store ?_); first | (refine AL.w rfl (OW.store (ty := 28) (n := 2) rfl (by conv => lhs; whnf) rfl rfl (by kernel_rfl) rfl rfl (by decide) rfl (Nat.le_of_ble_eq_true rfl) (by intro r h; cases h)) ?_) | (refine AL.w rfl (OW.store (ty := 134) (n := 2) rfl (by conv => lhs; whnf) rfl rfl (by kernel_rfl) rfl rfl (by decide) rfl (Nat.le_of_ble_eq_true rfl) (by intro r h; cases h)) ?_) | (refine AL.w rfl (OW.store (ty := 137) (n := 12) rfl (by conv => lhs; whnf) rfl rfl (by kernel_rfl) rfl rfl (by decide) rfl (Nat.le_of_ble_eq_true rfl) (by intro r h; cases h)) ?_)) | ((with_reducible refine AL.k_alloc ?_); first | refine AL.w rfl (OW.alloc (ty := 28) (z := [.int .i64 0, .int .i64 0]) (by kernel_rfl) rfl) ?_ | refine AL.w rfl (OW.alloc (ty := 134) (z := [.slice none 0 0, .slice none 0 0]) (by kernel_rfl) rfl) ?_ | refine AL.w rfl (OW.alloc (ty := 137) (z := [.int .i64 0, .int .i64 0, .int .i64 0, .int .i64 0, .int .i64 0, .int .i64 0, .int .i64 0, .int .i64 0, .int .i64 0, .int .i64 0, .int .i64 0, .int .i64 0]) (by kernel_rfl) rfl) ?_) | ((with_reducible refine AL.k_box ?_); first | (refine AL.w rfl (OW.box (by conv => lhs; whnf) (by intro r h; cases h)) ?_))); (conv => (arg 5; try tactic => exact nrm)); (conv => (arg 6; try tactic => exact nrm)))
          | (refine AL.bs rfl (fun hc => ?_) (fun hc => ?_) <;> (fail_if_success (with_reducible exact lit_no hc)) <;> (try simp only [decide_eq_true_eq, decide_eq_false_iff_not, Bool.not_true, Bool.not_false, Bool.not_eq_true', Bool.not_eq_false', Int.not_lt, Int.not_le, Classical.not_not, ne_eq] at hc) <;> first | (exfalso; first | contradiction | (first | omega | (simp_all; done)); done) | (conv => (arg 5; try tactic => exact nrm)))
          | refine AL.nil ?_)
        | ((with_reducible refine AW.on ?_); first
          | refine AW.seq ?_
          | refine AW.skip ?_
          | refine AW.exit ?_
          | refine AW.ret ?_
          | refine AW.block ?_
          | (refine AW.draw (id := 10) 17 #[0, 1, 0, 0, 8, 24, 56, 120, 252, 0, 1020, 2047, 0, 8191, 16383, 32767, 32767, 131071, 262143] (by kernel_rfl) (by kernel_rfl) ?_; (conv => (arg 8; simp only [List.take_succ_cons, List.take_zero])))
          | (refine AW.region (id := 3) ?_; exfalso; first | omega | (simp_all; done); done)
          | (refine AW.region (id := 6) ?_; exfalso; first | omega | (simp_all; done); done)
          | refine AW.region ?_
          | (refine AW.conds rfl (fun hc => ?_) (fun hc => ?_) <;> (try simp only [decide_eq_true_eq, decide_eq_false_iff_not, Bool.not_true, Bool.not_false, Bool.not_eq_true', Bool.not_eq_false', Int.not_lt, Int.not_le, Classical.not_not, ne_eq] at hc) <;> first | (exfalso; first | contradiction | (first | omega | (simp_all; done)); done) | skip))
        | ((with_reducible refine AD.on ?_); first
          | ((first | ((with_reducible refine AD.k_move ?_); first | (refine AD.q rfl (OQ.move (by conv => lhs; whnf)) rfl rfl rfl ?_)) | ((with_reducible refine AD.k_load ?_); first | refine AD.q rfl (OQ.loadN (ty := 137) (n := 12) rfl (by kernel_rfl) (by kernel_rfl) (by first | (exact h0) | rfl)) rfl rfl rfl ?_ | (refine AD.q rfl (OQ.load1 (ty := 22) rfl (by kernel_rfl) (by first | (exact h0) | (conv => lhs; whnf))) rfl rfl rfl ?_) | (refine AD.q rfl (OQ.load1 (ty := 3) rfl (by kernel_rfl) (by first | (exact h0) | (conv => lhs; whnf))) rfl rfl rfl ?_)) | ((with_reducible refine AD.k_extract ?_); first | refine AD.q rfl (OQ.extract rfl rfl) rfl rfl rfl ?_) | ((with_reducible refine AD.k_binOp ?_); first | refine AD.q rfl (OQ.subi rfl rfl (by omega)) rfl rfl rfl ?_ | refine AD.q rfl (OQ.sub rfl rfl) rfl rfl rfl ?_)); (conv => (arg 10; try tactic => exact nrm)))
          | ((first | ((with_reducible refine AD.k_fieldAddr ?_); first | refine AD.q rfl (OQ.fieldA (ty := 24) (i := 1) (n := 1) (off := 1) (g := false) rfl (by kernel_rfl) (by decide)) rfl rfl rfl ?_ | refine AD.q rfl (OQ.fieldA (ty := 85) (i := 0) (n := 1) (off := 0) (g := false) rfl (by kernel_rfl) (by decide)) rfl rfl rfl ?_) | ((with_reducible refine AD.k_build ?_); first | refine AD.q rfl (OQ.buildA (ty := 65) (zs := [.int .i64 0, .int .i64 0, .int .i64 0]) (n := 1) (k := 3) (g := false) (by kernel_rfl) rfl (by kernel_rfl) rfl rfl rfl) rfl rfl rfl ?_) | ((with_reducible refine AD.k_indexAddr ?_); first | refine AD.q rfl (OQ.idxAddr (ty := 22) (z := 4) (g := true) rfl rfl (by kernel_rfl) (by omega) (by omega)) rfl rfl rfl ?_)); (conv => (arg 10; try tactic => exact nrm)))
          | (refine AD.nil ?_; (conv => (arg 4; simp only [List.drop_succ_cons, List.drop_zero, List.drop_nil])); (conv => (arg 5; try tactic => exact nrm)); (conv => (arg 6; try tactic => exact nrm))))
        | ((with_reducible refine FinP.on ?_); (first | refine FinP.ret (.cellN (n := 2) (by conv => lhs; whnf) (by kernel_rfl) (by kernel_rfl) rfl (.tmp (by conv => lhs; whnf) .nil)) ?_ rfl | refine FinP.end (.cellN (n := 2) (by conv => lhs; whnf) (by kernel_rfl) (by kernel_rfl) rfl (.tmp (by conv => lhs; whnf) .nil)) ?_ rfl); (try simp only [pack, List.drop, List.take]); all_goals (rfl)))
    · rw [show pdV l d b = frV (pdN l d b) (NM l).det by simp [pdV, hd0, hok], show pdE l d b = frE (pdN l d b) (NM l).det by simp [pdE, hok, hd0]]
      rw [if_neg hd0] at HR
      have HF := HF hd0
      rw [show fitF (NM l) 0 * (d - (ep l 0).d) + fitF (NM l) 1 * b + fitF (NM l) 2 * 1 = pdN l d b from rfl] at HF HM
      obtain ⟨p, q, ef⟩ := frV_form (pdN l d b) (NM l).det
      rw [ef] at HF ⊢
      generalize frE (pdN l d b) (NM l).det = ee at *
      generalize pdN l d b = N_ at *
      clear ef k3 k4 k5
      refine PCalls.enter (t := [srI nm 0 l.length, .int .i64 d, .int .i64 b, undef, undef, undef, undef, undef, undef, undef, undef, undef, undef, undef, undef, undef, undef, undef, undef, undef, undef, undef, undef, undef, undef, undef, undef, undef, undef, undef, undef, undef, undef, undef, undef, undef, undef, undef, undef, undef, undef, undef, undef, undef, undef, undef, undef, undef, undef, undef, undef, undef, undef, undef, undef, undef, undef, undef, undef, undef, undef, undef, undef]) Try.func45 rfl (ro1 _ rfl) rfl fun E => ?_
      repeat' (first
        | with_reducible refine Then.n ?_
        | with_reducible refine Then.r ?_
        | with_reducible refine Then.x ?_
        | with_reducible refine InB.n ?_
        | with_reducible refine InB.r ?_
        | with_reducible refine InB.hit ?_
        | with_reducible refine InB.miss (by decide) ?_
        | ((with_reducible refine AL.on ?_); first
          | (refine AL.gd rfl ?_; first | (refine AL.gskip rfl rfl ?_; (conv => (arg 5; try tactic => exact nrm))) | (refine AL.gs1 rfl rfl (fun hc => ?_) (fun hc => ?_) <;> (try simp only [decide_eq_true_eq, decide_eq_false_iff_not, Bool.not_true, Bool.not_false, Bool.not_eq_true', Bool.not_eq_false', Int.not_lt, Int.not_le, Classical.not_not, ne_eq] at hc) <;> first | (exfalso; first | contradiction | (first | omega | (simp_all; done)); done) | (conv => (arg 5; try tactic => exact nrm))) | (refine AL.gs0 rfl rfl (fun hc => ?_) (fun hc => ?_) <;> (try simp only [decide_eq_true_eq, decide_eq_false_iff_not, Bool.not_true, Bool.not_false, Bool.not_eq_true', Bool.not_eq_false', Int.not_lt, Int.not_le, Classical.not_not, ne_eq] at hc) <;> first | (exfalso; first | contradiction | (first | omega | (simp_all; done)); done) | (conv => (arg 5; try tactic => exact nrm))))
          | ((first | ((with_reducible refine AL.k_move ?_); first | (refine AL.q rfl (OQ.move (by conv => lhs; whnf)) ?_)) | ((with_reducible refine AL.k_assign ?_); first | (refine AL.q rfl (OQ.assign (by conv => lhs; whnf)) ?_)) | ((with_reducible refine AL.k_load ?_); first | refine AL.q rfl (OQ.loadN (ty := 24) (n := 2) rfl (by kernel_rfl) (by kernel_rfl) (by first | (exact h0) | rfl)) ?_ | (refine AL.q rfl (OQ.load1 (ty := 22) rfl (by kernel_rfl) (by first | (exact h0) | (conv => lhs; whnf))) ?_) | (refine AL.q rfl (OQ.load1 (ty := 3) rfl (by kernel_rfl) (by first | (exact h0) | (conv => lhs; whnf))) ?_)) | ((with_reducible refine AL.k_extract ?_); first | refine AL.q rfl (OQ.extract rfl rfl) ?_) | ((with_reducible refine AL.k_binOp ?_); first | refine AL.q rfl (OQ.neq rfl rfl) ?_ | refine AL.q rfl (OQ.addi rfl rfl (by omega)) ?_ | refine AL.q rfl (OQ.add rfl rfl) ?_) | ((with_reducible refine AL.k_unOp ?_); first | refine AL.q rfl (OQ.not rfl) ?_) | ((with_reducible refine AL.k_pick ?_); first | (refine AL.q rfl (OQ.pickT rfl (by with_reducible rfl) (by conv => lhs; whnf)) ?_) | (refine AL.q rfl (OQ.pickF rfl (by with_reducible rfl) (by conv => lhs; whnf)) ?_))); (conv => (arg 5; try tactic => exact nrm)))
          | ((first | ((with_reducible refine AL.k_call ?_); first | refine AL.pcall (g := 99) rfl (by kernel_rfl) rfl (HC _ _ (.blk 0 _ rfl rfl rfl)) ?_ | refine AL.pcall (g := 94) rfl (by kernel_rfl) rfl (H1 _) ?_ | refine AL.pcall (g := 89) rfl (by kernel_rfl) rfl (H2 _) ?_) | ((with_reducible refine AL.k_build ?_); first | refine AL.q rfl (OQ.buildS (ty := 28) (zs := [.int .i64 0, .int .i64 0]) (pls := [(0, 1), (1, 1)]) (by kernel_rfl) rfl (by kernel_rfl) rfl rfl rfl) ?_) | ((with_reducible refine AL.k_fieldAddr ?_); first | refine AL.q rfl (OQ.fieldA (ty := 24) (i := 1) (n := 1) (off := 1) (g := false) rfl (by kernel_rfl) (by decide)) ?_ | refine AL.q rfl (OQ.fieldA (ty := 85) (i := 0) (n := 1) (off := 0) (g := false) rfl (by kernel_rfl) (by decide)) ?_) | ((with_reducible refine AL.k_indexAddr ?_); first | refine AL.q rfl (OQ.idxAddr (ty := 22) (z := 4) (g := true) rfl rfl (by kernel_rfl) (by omega) (by omega)) ?_)); (conv => (arg 5; try tactic => exact nrm)))
          | ((first | ((with_reducible refine AL.k_call ?_); first | refine AL.acall (g := 68) rfl (by kernel_rfl) rfl ((by exact HR _ 0 _ rfl rfl)) ?_) | ((with_reducible refine AL.k_store ?_); first | (refine AL.w rfl (OW.store (ty := 28) (n := 2) rfl (by conv => lhs; whnf) rfl rfl (by kernel_rfl) rfl rfl (by decide) rfl (Nat.le_of_ble_eq_true rfl) (by intro r h; cases h)) ?_) | (refine AL.w rfl (OW.store (ty := 134) (n := 2) rfl (by conv => lhs; whnf) rfl rfl (by kernel_rfl) rfl rfl (by decide) rfl (Nat.le_of_ble_eq_true rfl) (by intro r h; cases h)) ?_) | (refine AL.w rfl (OW.store (ty := 137) (n := 12) rfl (by conv => lhs; whnf) rfl rfl (by kernel_rfl) rfl rfl (by decide) rfl (Nat.le_of_ble_eq_true rfl) (by intro r h; cases h)) ?_)) | ((with_reducible refine AL.k_alloc ?_); first | refine AL.w rfl (OW.alloc (ty := 28) (z := [.int .i64 0, .int .i64 0]) (by kernel_rfl) rfl) ?_ | refine AL.w rfl (OW.alloc (ty := 134) (z := [.slice none 0 0, .slice none 0 0]) (by kernel_rfl) rfl) ?_ | refine AL.w rfl (OW.alloc (ty := 137) (z := [.int .i64 0, .int .i64 0, .int .i64 0, .int .i64 0, .int .i64 0, .int .i64 0, .int .i64 0, .int .i64 0, .int .i64 0, .int .i64 0, .int .i64 0, .int .i64 0]) (by kernel_rfl) rfl) ?_) | ((with_reducible refine AL.k_box ?_); first | (refine AL.w rfl (OW.box (by conv => lhs; whnf) (by intro r h; cases h)) ?_))); (conv => (arg 5; try tactic => exact nrm)); (conv => (arg 6; try tactic => exact nrm)))
          | (refine AL.bs rfl (fun hc => ?_) (fun hc => ?_) <;> (fail_if_success (with_reducible exact lit_no hc)) <;> (try simp only [decide_eq_true_eq, decide_eq_false_iff_not, Bool.not_true, Bool.not_false, Bool.not_eq_true', Bool.not_eq_false', Int.not_lt, Int.not_le, Classical.not_not, ne_eq] at hc) <;> first | (exfalso; first | contradiction | (first | omega | (simp_all; done)); done) | (conv => (arg 5; try tactic => exact nrm)))
          | refine AL.nil ?_)
        | ((with_reducible refine AW.on ?_); first
          | refine AW.seq ?_
          | refine AW.skip ?_
          | refine AW.exit ?_
          | refine AW.ret ?_
          | refine AW.block ?_
          | (refine AW.draw (id := 10) 17 #[0, 1, 0, 0, 8, 24, 56, 120, 252, 0, 1020, 2047, 0, 8191, 16383, 32767, 32767, 131071, 262143] (by kernel_rfl) (by kernel_rfl) ?_; (conv => (arg 8; simp only [List.take_succ_cons, List.take_zero])))
          | (refine AW.region (id := 3) ?_; exfalso; first | omega | (simp_all; done); done)
          | (refine AW.region (id := 6) ?_; exfalso; first | omega | (simp_all; done); done)
          | (refine AW.region (id := 9) ?_; exfalso; first | omega | (simp_all; done); done)
          | refine AW.region ?_
          | (refine AW.conds rfl (fun hc => ?_) (fun hc => ?_) <;> (try simp only [decide_eq_true_eq, decide_eq_false_iff_not, Bool.not_true, Bool.not_false, Bool.not_eq_true', Bool.not_eq_false', Int.not_lt, Int.not_le, Classical.not_not, ne_eq] at hc) <;> first | (exfalso; first | contradiction | (first | omega | (simp_all; done)); done) | skip))
        | ((with_reducible refine AD.on ?_); first
          | ((first | ((with_reducible refine AD.k_move ?_); first | (refine AD.q rfl (OQ.move (by conv => lhs; whnf)) rfl rfl rfl ?_)) | ((with_reducible refine AD.k_load ?_); first | refine AD.q rfl (OQ.loadN (ty := 137) (n := 12) rfl (by kernel_rfl) (by kernel_rfl) (by first | (exact h0) | rfl)) rfl rfl rfl ?_ | (refine AD.q rfl (OQ.load1 (ty := 22) rfl (by kernel_rfl) (by first | (exact h0) | (conv => lhs; whnf))) rfl rfl rfl ?_) | (refine AD.q rfl (OQ.load1 (ty := 3) rfl (by kernel_rfl) (by first | (exact h0) | (conv => lhs; whnf))) rfl rfl rfl ?_)) | ((with_reducible refine AD.k_extract ?_); first | refine AD.q rfl (OQ.extract rfl rfl) rfl rfl rfl ?_) | ((with_reducible refine AD.k_binOp ?_); first | refine AD.q rfl (OQ.subi rfl rfl (by omega)) rfl rfl rfl ?_ | refine AD.q rfl (OQ.sub rfl rfl) rfl rfl rfl ?_)); (conv => (arg 10; try tactic => exact nrm)))
          | ((first | ((with_reducible refine AD.k_call ?_); first | refine AD.pcall (g := 69) rfl (by kernel_rfl) rfl (HT _) rfl rfl ?_ | refine AD.pcall (g := 91) rfl (by kernel_rfl) rfl (HM _) rfl rfl ?_ | refine AD.pcall (g := 71) rfl (by kernel_rfl) rfl (HD _) rfl rfl ?_ | refine AD.pcall (g := 100) rfl (by kernel_rfl) rfl (HF _) rfl rfl ?_) | ((with_reducible refine AD.k_fieldAddr ?_); first | refine AD.q rfl (OQ.fieldA (ty := 24) (i := 1) (n := 1) (off := 1) (g := false) rfl (by kernel_rfl) (by decide)) rfl rfl rfl ?_ | refine AD.q rfl (OQ.fieldA (ty := 85) (i := 0) (n := 1) (off := 0) (g := false) rfl (by kernel_rfl) (by decide)) rfl rfl rfl ?_) | ((with_reducible refine AD.k_build ?_); first | refine AD.q rfl (OQ.buildA (ty := 65) (zs := [.int .i64 0, .int .i64 0, .int .i64 0]) (n := 1) (k := 3) (g := false) (by kernel_rfl) rfl (by kernel_rfl) rfl rfl rfl) rfl rfl rfl ?_) | ((with_reducible refine AD.k_indexAddr ?_); first | refine AD.q rfl (OQ.idxAddr (ty := 22) (z := 4) (g := true) rfl rfl (by kernel_rfl) (by omega) (by omega)) rfl rfl rfl ?_)); (conv => (arg 10; try tactic => exact nrm)))
          | (refine AD.nil ?_; (conv => (arg 4; simp only [List.drop_succ_cons, List.drop_zero, List.drop_nil])); (conv => (arg 5; try tactic => exact nrm)); (conv => (arg 6; try tactic => exact nrm))))
        | ((with_reducible refine FinP.on ?_); (first | refine FinP.ret (.cellN (n := 2) (by conv => lhs; whnf) (by kernel_rfl) (by kernel_rfl) rfl (.tmp (by conv => lhs; whnf) .nil)) ?_ rfl | refine FinP.end (.cellN (n := 2) (by conv => lhs; whnf) (by kernel_rfl) (by kernel_rfl) rfl (.tmp (by conv => lhs; whnf) .nil)) ?_ rfl); (try simp only [pack, List.drop, List.take]); all_goals (rfl)))
theorem rPredicted_c (nm : ByteArray) (hR : SRight l) (d b : Int) (z0 : Nat) : PCalls Try.prog 47 [srI nm 0 l.length, .int .i64 d, .int .i64 b] [some ⟨flatE l, false, z0⟩] (.tuple #[pdV l d b, .int .i64 (pdE l d b)]) := by
  have hn1 := hR.n1
  have hn2 := hR.n20
  have HK := fun (m : Mem) (b : Nat) (blk : Blk) (hb : m.at b = some blk) (hc : blk.cells = flatE l) => RankOf_q nm l hR hb hc rfl
  have HT := fun (m : Mem) (b : Nat) (blk : Blk) (hb : m.at b = some blk) (hc : blk.cells = flatE l) => FitOf_q nm l hR hb hc rfl
  have hnb := (rws_sb hR).nb
  have h0 := flatE_get0 l hn1
  have hb0 := hR.bd 0 hn1
  have H1 := rWithin_q d (ep l 0).d ((ep l 0).d + 400)
  have H2 := rWithin_q b (-100) 100
  have hdet := hnb.detb
  rw [show Go.Sr.nm (rws l) = NM l from rfl] at hdet
  have hrk := rk_det l
  generalize rkF (rwT l l.length) (rwT l l.length).length = rk at *
  cases hok : pdOk l d b with
  | false =>
    rw [show pdV l d b = z2 by simp [pdV, hok], show pdE l d b = 2 by simp [pdE, hok]]
    unfold pdOk at hok
    have hdd : rngB d (ep l 0).d ((ep l 0).d + 400) = true → (0 ≤ d - (ep l 0).d ∧ d - (ep l 0).d ≤ 400) := fun h => by rw [rngB_true] at h; omega
    generalize rngB d (ep l 0).d ((ep l 0).d + 400) = b1 at *
    generalize rngB b (-100) 100 = b2 at *
    refine PCalls.enter (t := [srI nm 0 l.length, .int .i64 d, .int .i64 b, undef, undef, undef, undef, undef, undef, undef, undef, undef, undef, undef, undef, undef, undef, undef, undef, undef, undef, undef, undef, undef, undef, undef, undef, undef, undef, undef, undef, undef, undef, undef, undef, undef, undef, undef, undef, undef, undef, undef, undef, undef, undef, undef, undef, undef, undef, undef, undef, undef, undef, undef, undef, undef, undef, undef]) Try.func47 rfl (ro1 _ rfl) rfl fun E => ?_
    repeat' (first
      | with_reducible refine Then.n ?_
      | with_reducible refine Then.r ?_
      | with_reducible refine Then.x ?_
      | with_reducible refine InB.n ?_
      | with_reducible refine InB.r ?_
      | with_reducible refine InB.hit ?_
      | with_reducible refine InB.miss (by decide) ?_
      | ((with_reducible refine AL.on ?_); first
        | ((first | ((with_reducible refine AL.k_load ?_); first | (refine AL.q rfl (OQ.load1 (ty := 22) rfl (by kernel_rfl) (by first | (exact h0) | (conv => lhs; whnf))) ?_) | (refine AL.q rfl (OQ.load1 (ty := 3) rfl (by kernel_rfl) (by first | (exact h0) | (conv => lhs; whnf))) ?_) | refine AL.q rfl (OQ.loadN (ty := 24) (n := 2) rfl (by kernel_rfl) (by kernel_rfl) (by first | (exact h0) | rfl)) ?_) | ((with_reducible refine AL.k_assign ?_); first | (refine AL.q rfl (OQ.assign (by conv => lhs; whnf)) ?_)) | ((with_reducible refine AL.k_move ?_); first | (refine AL.q rfl (OQ.move (by conv => lhs; whnf)) ?_)) | ((with_reducible refine AL.k_extract ?_); first | refine AL.q rfl (OQ.extract rfl rfl) ?_) | ((with_reducible refine AL.k_binOp ?_); first | refine AL.q rfl (OQ.subi rfl rfl (by omega)) ?_ | refine AL.q rfl (OQ.sub rfl rfl) ?_ | refine AL.q rfl (OQ.lss rfl rfl) ?_) | ((with_reducible refine AL.k_unOp ?_); first | refine AL.q rfl (OQ.not rfl) ?_)); (conv => (arg 5; try tactic => exact nrm)))
        | ((first | ((with_reducible refine AL.k_fieldAddr ?_); first | refine AL.q rfl (OQ.fieldA (ty := 24) (i := 1) (n := 1) (off := 1) (g := false) rfl (by kernel_rfl) (by decide)) ?_ | refine AL.q rfl (OQ.fieldA (ty := 85) (i := 0) (n := 1) (off := 0) (g := false) rfl (by kernel_rfl) (by decide)) ?_) | ((with_reducible refine AL.k_call ?_); first | refine AL.pcall (g := 24) rfl (by kernel_rfl) rfl ((by first | exact H1 _ | exact H2 _)) ?_) | ((with_reducible refine AL.k_build ?_); first | refine AL.q rfl (OQ.buildS (ty := 28) (zs := [.int .i64 0, .int .i64 0]) (pls := [(0, 1), (1, 1)]) (by kernel_rfl) rfl (by kernel_rfl) rfl rfl rfl) ?_) | ((with_reducible refine AL.k_indexAddr ?_); first | refine AL.q rfl (OQ.idxAddr (ty := 22) (z := 4) (g := true) rfl rfl (by kernel_rfl) (by omega) (by omega)) ?_)); (conv => (arg 5; try tactic => exact nrm)))
        | ((first | ((with_reducible refine AL.k_store ?_); first | (refine AL.w rfl (OW.store (ty := 28) (n := 2) rfl (by conv => lhs; whnf) rfl rfl (by kernel_rfl) rfl rfl (by decide) rfl (Nat.le_of_ble_eq_true rfl) (by intro r h; cases h)) ?_) | (refine AL.w rfl (OW.store (ty := 101) (n := 4) rfl (by conv => lhs; whnf) rfl rfl (by kernel_rfl) rfl rfl (by decide) rfl (Nat.le_of_ble_eq_true rfl) (by intro r h; cases h)) ?_)) | ((with_reducible refine AL.k_alloc ?_); first | refine AL.w rfl (OW.alloc (ty := 28) (z := [.int .i64 0, .int .i64 0]) (by kernel_rfl) rfl) ?_ | refine AL.w rfl (OW.alloc (ty := 101) (z := [.int .i64 0, .int .i64 0, .int .i64 0, .int .i64 0]) (by kernel_rfl) rfl) ?_) | ((with_reducible refine AL.k_box ?_); first | (refine AL.w rfl (OW.box (by conv => lhs; whnf) (by intro r h; cases h)) ?_))); (conv => (arg 5; try tactic => exact nrm)); (conv => (arg 6; try tactic => exact nrm)))
        | refine AL.nil ?_)
      | ((with_reducible refine AW.on ?_); first
        | refine AW.seq ?_
        | refine AW.skip ?_
        | refine AW.exit ?_
        | refine AW.ret ?_
        | refine AW.block ?_
        | (refine AW.draw (id := 2) 13 #[0, 0, 2, 6, 14, 30, 0, 64, 192, 448, 960, 1984, 4095] (by kernel_rfl) (by kernel_rfl) ?_; (conv => (arg 8; simp only [List.take_succ_cons, List.take_zero])))
        | (refine AW.draw (id := 11) 11 #[0, 1, 0, 0, 12, 31, 0, 64, 255, 511, 511, 2047, 4095] (by kernel_rfl) (by kernel_rfl) ?_; (conv => (arg 8; simp only [List.take_succ_cons, List.take_zero])))
        | (refine AW.region (id := 3) ?_; (have hdd := hdd (by simp_all)))
        | (refine AW.region (id := 7) ?_; exfalso; first | omega | (simp_all; done); done)
        | refine AW.region ?_
        | (refine AW.conds rfl (fun hc => ?_) (fun hc => ?_) <;> (try simp only [decide_eq_true_eq, decide_eq_false_iff_not, Bool.not_true, Bool.not_false, Bool.not_eq_true', Bool.not_eq_false', Int.not_lt, Int.not_le, Classical.not_not, ne_eq] at hc) <;> first | (exfalso; first | contradiction | (first | omega | (simp_all; done)); done) | skip))
      | ((with_reducible refine AD.on ?_); first
        | ((first | ((with_reducible refine AD.k_load ?_); first | (refine AD.q rfl (OQ.load1 (ty := 22) rfl (by kernel_rfl) (by first | (exact h0) | (conv => lhs; whnf))) rfl rfl rfl ?_) | (refine AD.q rfl (OQ.load1 (ty := 3) rfl (by kernel_rfl) (by first | (exact h0) | (conv => lhs; whnf))) rfl rfl rfl ?_) | refine AD.q rfl (OQ.loadN (ty := 65) (n := 3) rfl (by kernel_rfl) (by kernel_rfl) (by first | (exact h0) | rfl)) rfl rfl rfl ?_) | ((with_reducible refine AD.k_move ?_); first | (refine AD.q rfl (OQ.move (by conv => lhs; whnf)) rfl rfl rfl ?_)) | ((with_reducible refine AD.k_extract ?_); first | refine AD.q rfl (OQ.extract rfl rfl) rfl rfl rfl ?_) | ((with_reducible refine AD.k_binOp ?_); first | refine AD.q rfl (OQ.addi rfl rfl (by omega)) rfl rfl rfl ?_ | refine AD.q rfl (OQ.add rfl rfl) rfl rfl rfl ?_)); (conv => (arg 10; try tactic => exact nrm)))
        | ((first | ((with_reducible refine AD.k_fieldAddr ?_); first | refine AD.q rfl (OQ.fieldA (ty := 24) (i := 1) (n := 1) (off := 1) (g := false) rfl (by kernel_rfl) (by decide)) rfl rfl rfl ?_ | refine AD.q rfl (OQ.fieldA (ty := 85) (i := 0) (n := 1) (off := 0) (g := false) rfl (by kernel_rfl) (by decide)) rfl rfl rfl ?_ | refine AD.q rfl (OQ.fieldA (ty := 101) (i := 0) (n := 3) (off := 0) (g := true) rfl (by kernel_rfl) (by decide)) rfl rfl rfl ?_ | refine AD.q rfl (OQ.fieldA (ty := 101) (i := 1) (n := 1) (off := 3) (g := false) rfl (by kernel_rfl) (by decide)) rfl rfl rfl ?_) | ((with_reducible refine AD.k_call ?_); first | refine AD.pcall (g := 24) rfl (by kernel_rfl) rfl ((by first | exact H1 _ | exact H2 _)) rfl rfl ?_) | ((with_reducible refine AD.k_build ?_); first | refine AD.q rfl (OQ.buildA (ty := 65) (zs := [.int .i64 0, .int .i64 0, .int .i64 0]) (n := 1) (k := 3) (g := false) (by kernel_rfl) rfl (by kernel_rfl) rfl rfl rfl) rfl rfl rfl ?_) | ((with_reducible refine AD.k_indexAddr ?_); first | refine AD.q rfl (OQ.idxAddr (ty := 22) (z := 4) (g := true) rfl rfl (by kernel_rfl) (by omega) (by omega)) rfl rfl rfl ?_)); (conv => (arg 10; try tactic => exact nrm)))
        | (refine AD.nil ?_; (conv => (arg 4; simp only [List.drop_succ_cons, List.drop_zero, List.drop_nil])); (conv => (arg 5; try tactic => exact nrm)); (conv => (arg 6; try tactic => exact nrm))))
      | ((with_reducible refine FinP.on ?_); (first | refine FinP.ret (.cellN (n := 2) (by conv => lhs; whnf) (by kernel_rfl) (by kernel_rfl) rfl (.tmp (by conv => lhs; whnf) .nil)) ?_ rfl | refine FinP.end (.cellN (n := 2) (by conv => lhs; whnf) (by kernel_rfl) (by kernel_rfl) rfl (.tmp (by conv => lhs; whnf) .nil)) ?_ rfl); (try simp only [pack, List.drop, List.take]); all_goals (rfl)))
  | true =>
    obtain ⟨k1, k2, k3, k4, k5⟩ := pd_bd hR hok
    have HM := fun (m : Mem) => dot_q (fitF (NM l) 0) (fitF (NM l) 1) (fitF (NM l) 2) (d - (ep l 0).d) b 1 k3 k4 k5 m
    have HF := fun (h0 : (NM l).det ≠ 0) (m : Mem) => rsmall_q (fitF (NM l) 0 * (d - (ep l 0).d) + fitF (NM l) 1 * b + fitF (NM l) 2 * 1) (NM l).det (by omega) (by omega) h0 m
    have hok' := hok
    unfold pdOk at hok'
    rw [Bool.and_eq_true] at hok'
    rw [hok'.1] at H1
    rw [hok'.2] at H2
    by_cases hd0 : (NM l).det = 0
    · have hr := hrk.2 hd0
      rw [show pdV l d b = z2 by simp [pdV, hd0], show pdE l d b = 30 by simp [pdE, hok, hd0]]
      refine PCalls.enter (t := [srI nm 0 l.length, .int .i64 d, .int .i64 b, undef, undef, undef, undef, undef, undef, undef, undef, undef, undef, undef, undef, undef, undef, undef, undef, undef, undef, undef, undef, undef, undef, undef, undef, undef, undef, undef, undef, undef, undef, undef, undef, undef, undef, undef, undef, undef, undef, undef, undef, undef, undef, undef, undef, undef, undef, undef, undef, undef, undef, undef, undef, undef, undef, undef]) Try.func47 rfl (ro1 _ rfl) rfl fun E => ?_
      repeat' (first
        | with_reducible refine Then.n ?_
        | with_reducible refine Then.r ?_
        | with_reducible refine Then.x ?_
        | with_reducible refine InB.n ?_
        | with_reducible refine InB.r ?_
        | with_reducible refine InB.hit ?_
        | with_reducible refine InB.miss (by decide) ?_
        | ((with_reducible refine AL.on ?_); first
          | ((first | ((with_reducible refine AL.k_load ?_); first | (refine AL.q rfl (OQ.load1 (ty := 22) rfl (by kernel_rfl) (by first | (exact h0) | (conv => lhs; whnf))) ?_) | (refine AL.q rfl (OQ.load1 (ty := 3) rfl (by kernel_rfl) (by first | (exact h0) | (conv => lhs; whnf))) ?_) | refine AL.q rfl (OQ.loadN (ty := 24) (n := 2) rfl (by kernel_rfl) (by kernel_rfl) (by first | (exact h0) | rfl)) ?_) | ((with_reducible refine AL.k_assign ?_); first | (refine AL.q rfl (OQ.assign (by conv => lhs; whnf)) ?_)) | ((with_reducible refine AL.k_move ?_); first | (refine AL.q rfl (OQ.move (by conv => lhs; whnf)) ?_)) | ((with_reducible refine AL.k_extract ?_); first | refine AL.q rfl (OQ.extract rfl rfl) ?_) | ((with_reducible refine AL.k_binOp ?_); first | refine AL.q rfl (OQ.subi rfl rfl (by omega)) ?_ | refine AL.q rfl (OQ.sub rfl rfl) ?_ | refine AL.q rfl (OQ.lss rfl rfl) ?_) | ((with_reducible refine AL.k_unOp ?_); first | refine AL.q rfl (OQ.not rfl) ?_)); (conv => (arg 5; try tactic => exact nrm)))
          | ((first | ((with_reducible refine AL.k_fieldAddr ?_); first | refine AL.q rfl (OQ.fieldA (ty := 24) (i := 1) (n := 1) (off := 1) (g := false) rfl (by kernel_rfl) (by decide)) ?_ | refine AL.q rfl (OQ.fieldA (ty := 85) (i := 0) (n := 1) (off := 0) (g := false) rfl (by kernel_rfl) (by decide)) ?_) | ((with_reducible refine AL.k_call ?_); first | refine AL.pcall (g := 24) rfl (by kernel_rfl) rfl ((by first | exact H1 _ | exact H2 _)) ?_ | refine AL.pcall (g := 78) rfl (by kernel_rfl) rfl (HK _ _ _ rfl rfl) ?_) | ((with_reducible refine AL.k_build ?_); first | refine AL.q rfl (OQ.buildS (ty := 28) (zs := [.int .i64 0, .int .i64 0]) (pls := [(0, 1), (1, 1)]) (by kernel_rfl) rfl (by kernel_rfl) rfl rfl rfl) ?_) | ((with_reducible refine AL.k_indexAddr ?_); first | refine AL.q rfl (OQ.idxAddr (ty := 22) (z := 4) (g := true) rfl rfl (by kernel_rfl) (by omega) (by omega)) ?_)); (conv => (arg 5; try tactic => exact nrm)))
          | ((first | ((with_reducible refine AL.k_store ?_); first | (refine AL.w rfl (OW.store (ty := 28) (n := 2) rfl (by conv => lhs; whnf) rfl rfl (by kernel_rfl) rfl rfl (by decide) rfl (Nat.le_of_ble_eq_true rfl) (by intro r h; cases h)) ?_) | (refine AL.w rfl (OW.store (ty := 101) (n := 4) rfl (by conv => lhs; whnf) rfl rfl (by kernel_rfl) rfl rfl (by decide) rfl (Nat.le_of_ble_eq_true rfl) (by intro r h; cases h)) ?_)) | ((with_reducible refine AL.k_alloc ?_); first | refine AL.w rfl (OW.alloc (ty := 28) (z := [.int .i64 0, .int .i64 0]) (by kernel_rfl) rfl) ?_ | refine AL.w rfl (OW.alloc (ty := 101) (z := [.int .i64 0, .int .i64 0, .int .i64 0, .int .i64 0]) (by kernel_rfl) rfl) ?_) | ((with_reducible refine AL.k_box ?_); first | (refine AL.w rfl (OW.box (by conv => lhs; whnf) (by intro r h; cases h)) ?_))); (conv => (arg 5; try tactic => exact nrm)); (conv => (arg 6; try tactic => exact nrm)))
          | refine AL.nil ?_)
        | ((with_reducible refine AW.on ?_); first
          | refine AW.seq ?_
          | refine AW.skip ?_
          | refine AW.exit ?_
          | refine AW.ret ?_
          | refine AW.block ?_
          | (refine AW.draw (id := 2) 13 #[0, 0, 2, 6, 14, 30, 0, 64, 192, 448, 960, 1984, 4095] (by kernel_rfl) (by kernel_rfl) ?_; (conv => (arg 8; simp only [List.take_succ_cons, List.take_zero])))
          | (refine AW.draw (id := 11) 11 #[0, 1, 0, 0, 12, 31, 0, 64, 255, 511, 511, 2047, 4095] (by kernel_rfl) (by kernel_rfl) ?_; (conv => (arg 8; simp only [List.take_succ_cons, List.take_zero])))
          | (refine AW.region (id := 4) ?_; exfalso; first | omega | (simp_all; done); done)
          | (refine AW.region (id := 6) ?_; exfalso; first | omega | (simp_all; done); done)
          | (refine AW.region (id := 10) ?_; exfalso; first | omega | (simp_all; done); done)
          | refine AW.region ?_
          | (refine AW.conds rfl (fun hc => ?_) (fun hc => ?_) <;> (try simp only [decide_eq_true_eq, decide_eq_false_iff_not, Bool.not_true, Bool.not_false, Bool.not_eq_true', Bool.not_eq_false', Int.not_lt, Int.not_le, Classical.not_not, ne_eq] at hc) <;> first | (exfalso; first | contradiction | (first | omega | (simp_all; done)); done) | skip))
        | ((with_reducible refine AD.on ?_); first
          | ((first | ((with_reducible refine AD.k_load ?_); first | (refine AD.q rfl (OQ.load1 (ty := 22) rfl (by kernel_rfl) (by first | (exact h0) | (conv => lhs; whnf))) rfl rfl rfl ?_) | (refine AD.q rfl (OQ.load1 (ty := 3) rfl (by kernel_rfl) (by first | (exact h0) | (conv => lhs; whnf))) rfl rfl rfl ?_) | refine AD.q rfl (OQ.loadN (ty := 65) (n := 3) rfl (by kernel_rfl) (by kernel_rfl) (by first | (exact h0) | rfl)) rfl rfl rfl ?_) | ((with_reducible refine AD.k_move ?_); first | (refine AD.q rfl (OQ.move (by conv => lhs; whnf)) rfl rfl rfl ?_)) | ((with_reducible refine AD.k_extract ?_); first | refine AD.q rfl (OQ.extract rfl rfl) rfl rfl rfl ?_) | ((with_reducible refine AD.k_binOp ?_); first | refine AD.q rfl (OQ.addi rfl rfl (by omega)) rfl rfl rfl ?_ | refine AD.q rfl (OQ.add rfl rfl) rfl rfl rfl ?_)); (conv => (arg 10; try tactic => exact nrm)))
          | ((first | ((with_reducible refine AD.k_fieldAddr ?_); first | refine AD.q rfl (OQ.fieldA (ty := 24) (i := 1) (n := 1) (off := 1) (g := false) rfl (by kernel_rfl) (by decide)) rfl rfl rfl ?_ | refine AD.q rfl (OQ.fieldA (ty := 85) (i := 0) (n := 1) (off := 0) (g := false) rfl (by kernel_rfl) (by decide)) rfl rfl rfl ?_ | refine AD.q rfl (OQ.fieldA (ty := 101) (i := 0) (n := 3) (off := 0) (g := true) rfl (by kernel_rfl) (by decide)) rfl rfl rfl ?_ | refine AD.q rfl (OQ.fieldA (ty := 101) (i := 1) (n := 1) (off := 3) (g := false) rfl (by kernel_rfl) (by decide)) rfl rfl rfl ?_) | ((with_reducible refine AD.k_call ?_); first | refine AD.pcall (g := 24) rfl (by kernel_rfl) rfl ((by first | exact H1 _ | exact H2 _)) rfl rfl ?_) | ((with_reducible refine AD.k_build ?_); first | refine AD.q rfl (OQ.buildA (ty := 65) (zs := [.int .i64 0, .int .i64 0, .int .i64 0]) (n := 1) (k := 3) (g := false) (by kernel_rfl) rfl (by kernel_rfl) rfl rfl rfl) rfl rfl rfl ?_) | ((with_reducible refine AD.k_indexAddr ?_); first | refine AD.q rfl (OQ.idxAddr (ty := 22) (z := 4) (g := true) rfl rfl (by kernel_rfl) (by omega) (by omega)) rfl rfl rfl ?_)); (conv => (arg 10; try tactic => exact nrm)))
          | (refine AD.nil ?_; (conv => (arg 4; simp only [List.drop_succ_cons, List.drop_zero, List.drop_nil])); (conv => (arg 5; try tactic => exact nrm)); (conv => (arg 6; try tactic => exact nrm))))
        | ((with_reducible refine FinP.on ?_); (first | refine FinP.ret (.cellN (n := 2) (by conv => lhs; whnf) (by kernel_rfl) (by kernel_rfl) rfl (.tmp (by conv => lhs; whnf) .nil)) ?_ rfl | refine FinP.end (.cellN (n := 2) (by conv => lhs; whnf) (by kernel_rfl) (by kernel_rfl) rfl (.tmp (by conv => lhs; whnf) .nil)) ?_ rfl); (try simp only [pack, List.drop, List.take]); all_goals (rfl)))
    · have hr : ¬ rk < 3 := fun h => hd0 (hrk.1 h)
      rw [show pdV l d b = frV (pdN l d b) (NM l).det by simp [pdV, hd0, hok], show pdE l d b = frE (pdN l d b) (NM l).det by simp [pdE, hok, hd0]]
      have HF := HF hd0
      rw [show fitF (NM l) 0 * (d - (ep l 0).d) + fitF (NM l) 1 * b + fitF (NM l) 2 * 1 = pdN l d b from rfl] at HF HM
      obtain ⟨p, q, ef⟩ := frV_form (pdN l d b) (NM l).det
      rw [ef] at HF ⊢
      generalize frE (pdN l d b) (NM l).det = ee at *
      generalize pdN l d b = N_ at *
      clear ef k3 k4 k5
      refine PCalls.enter (t := [srI nm 0 l.length, .int .i64 d, .int .i64 b, undef, undef, undef, undef, undef, undef, undef, undef, undef, undef, undef, undef, undef, undef, undef, undef, undef, undef, undef, undef, undef, undef, undef, undef, undef, undef, undef, undef, undef, undef, undef, undef, undef, undef, undef, undef, undef, undef, undef, undef, undef, undef, undef, undef, undef, undef, undef, undef, undef, undef, undef, undef, undef, undef, undef]) Try.func47 rfl (ro1 _ rfl) rfl fun E => ?_
      repeat' (first
        | with_reducible refine Then.n ?_
        | with_reducible refine Then.r ?_
        | with_reducible refine Then.x ?_
        | with_reducible refine InB.n ?_
        | with_reducible refine InB.r ?_
        | with_reducible refine InB.hit ?_
        | with_reducible refine InB.miss (by decide) ?_
        | ((with_reducible refine AL.on ?_); first
          | ((first | ((with_reducible refine AL.k_load ?_); first | (refine AL.q rfl (OQ.load1 (ty := 22) rfl (by kernel_rfl) (by first | (exact h0) | (conv => lhs; whnf))) ?_) | (refine AL.q rfl (OQ.load1 (ty := 3) rfl (by kernel_rfl) (by first | (exact h0) | (conv => lhs; whnf))) ?_) | refine AL.q rfl (OQ.loadN (ty := 24) (n := 2) rfl (by kernel_rfl) (by kernel_rfl) (by first | (exact h0) | rfl)) ?_) | ((with_reducible refine AL.k_assign ?_); first | (refine AL.q rfl (OQ.assign (by conv => lhs; whnf)) ?_)) | ((with_reducible refine AL.k_move ?_); first | (refine AL.q rfl (OQ.move (by conv => lhs; whnf)) ?_)) | ((with_reducible refine AL.k_extract ?_); first | refine AL.q rfl (OQ.extract rfl rfl) ?_) | ((with_reducible refine AL.k_binOp ?_); first | refine AL.q rfl (OQ.subi rfl rfl (by omega)) ?_ | refine AL.q rfl (OQ.sub rfl rfl) ?_ | refine AL.q rfl (OQ.lss rfl rfl) ?_) | ((with_reducible refine AL.k_unOp ?_); first | refine AL.q rfl (OQ.not rfl) ?_)); (conv => (arg 5; try tactic => exact nrm)))
          | ((first | ((with_reducible refine AL.k_fieldAddr ?_); first | refine AL.q rfl (OQ.fieldA (ty := 24) (i := 1) (n := 1) (off := 1) (g := false) rfl (by kernel_rfl) (by decide)) ?_ | refine AL.q rfl (OQ.fieldA (ty := 85) (i := 0) (n := 1) (off := 0) (g := false) rfl (by kernel_rfl) (by decide)) ?_) | ((with_reducible refine AL.k_call ?_); first | refine AL.pcall (g := 24) rfl (by kernel_rfl) rfl ((by first | exact H1 _ | exact H2 _)) ?_ | refine AL.pcall (g := 78) rfl (by kernel_rfl) rfl (HK _ _ _ rfl rfl) ?_ | refine AL.pcall (g := 51) rfl (by kernel_rfl) rfl (HT _ _ _ rfl rfl) ?_) | ((with_reducible refine AL.k_build ?_); first | refine AL.q rfl (OQ.buildS (ty := 28) (zs := [.int .i64 0, .int .i64 0]) (pls := [(0, 1), (1, 1)]) (by kernel_rfl) rfl (by kernel_rfl) rfl rfl rfl) ?_) | ((with_reducible refine AL.k_indexAddr ?_); first | refine AL.q rfl (OQ.idxAddr (ty := 22) (z := 4) (g := true) rfl rfl (by kernel_rfl) (by omega) (by omega)) ?_)); (conv => (arg 5; try tactic => exact nrm)))
          | ((first | ((with_reducible refine AL.k_store ?_); first | (refine AL.w rfl (OW.store (ty := 28) (n := 2) rfl (by conv => lhs; whnf) rfl rfl (by kernel_rfl) rfl rfl (by decide) rfl (Nat.le_of_ble_eq_true rfl) (by intro r h; cases h)) ?_) | (refine AL.w rfl (OW.store (ty := 101) (n := 4) rfl (by conv => lhs; whnf) rfl rfl (by kernel_rfl) rfl rfl (by decide) rfl (Nat.le_of_ble_eq_true rfl) (by intro r h; cases h)) ?_)) | ((with_reducible refine AL.k_alloc ?_); first | refine AL.w rfl (OW.alloc (ty := 28) (z := [.int .i64 0, .int .i64 0]) (by kernel_rfl) rfl) ?_ | refine AL.w rfl (OW.alloc (ty := 101) (z := [.int .i64 0, .int .i64 0, .int .i64 0, .int .i64 0]) (by kernel_rfl) rfl) ?_) | ((with_reducible refine AL.k_box ?_); first | (refine AL.w rfl (OW.box (by conv => lhs; whnf) (by intro r h; cases h)) ?_))); (conv => (arg 5; try tactic => exact nrm)); (conv => (arg 6; try tactic => exact nrm)))
          | refine AL.nil ?_)
        | ((with_reducible refine AW.on ?_); first
          | refine AW.seq ?_
          | refine AW.skip ?_
          | refine AW.exit ?_
          | refine AW.ret ?_
          | refine AW.block ?_
          | (refine AW.draw (id := 2) 13 #[0, 0, 2, 6, 14, 30, 0, 64, 192, 448, 960, 1984, 4095] (by kernel_rfl) (by kernel_rfl) ?_; (conv => (arg 8; simp only [List.take_succ_cons, List.take_zero])))
          | (refine AW.draw (id := 11) 11 #[0, 1, 0, 0, 12, 31, 0, 64, 255, 511, 511, 2047, 4095] (by kernel_rfl) (by kernel_rfl) ?_; (conv => (arg 8; simp only [List.take_succ_cons, List.take_zero])))
          | (refine AW.region (id := 4) ?_; exfalso; first | omega | (simp_all; done); done)
          | (refine AW.region (id := 6) ?_; exfalso; first | omega | (simp_all; done); done)
          | (refine AW.region (id := 9) ?_; exfalso; first | omega | (simp_all; done); done)
          | refine AW.region ?_
          | (refine AW.conds rfl (fun hc => ?_) (fun hc => ?_) <;> (try simp only [decide_eq_true_eq, decide_eq_false_iff_not, Bool.not_true, Bool.not_false, Bool.not_eq_true', Bool.not_eq_false', Int.not_lt, Int.not_le, Classical.not_not, ne_eq] at hc) <;> first | (exfalso; first | contradiction | (first | omega | (simp_all; done)); done) | skip))
        | ((with_reducible refine AD.on ?_); first
          | ((first | ((with_reducible refine AD.k_load ?_); first | (refine AD.q rfl (OQ.load1 (ty := 22) rfl (by kernel_rfl) (by first | (exact h0) | (conv => lhs; whnf))) rfl rfl rfl ?_) | (refine AD.q rfl (OQ.load1 (ty := 3) rfl (by kernel_rfl) (by first | (exact h0) | (conv => lhs; whnf))) rfl rfl rfl ?_) | refine AD.q rfl (OQ.loadN (ty := 65) (n := 3) rfl (by kernel_rfl) (by kernel_rfl) (by first | (exact h0) | rfl)) rfl rfl rfl ?_) | ((with_reducible refine AD.k_move ?_); first | (refine AD.q rfl (OQ.move (by conv => lhs; whnf)) rfl rfl rfl ?_)) | ((with_reducible refine AD.k_extract ?_); first | refine AD.q rfl (OQ.extract rfl rfl) rfl rfl rfl ?_) | ((with_reducible refine AD.k_binOp ?_); first | refine AD.q rfl (OQ.addi rfl rfl (by omega)) rfl rfl rfl ?_ | refine AD.q rfl (OQ.add rfl rfl) rfl rfl rfl ?_)); (conv => (arg 10; try tactic => exact nrm)))
          | ((first | ((with_reducible refine AD.k_fieldAddr ?_); first | refine AD.q rfl (OQ.fieldA (ty := 24) (i := 1) (n := 1) (off := 1) (g := false) rfl (by kernel_rfl) (by decide)) rfl rfl rfl ?_ | refine AD.q rfl (OQ.fieldA (ty := 85) (i := 0) (n := 1) (off := 0) (g := false) rfl (by kernel_rfl) (by decide)) rfl rfl rfl ?_ | refine AD.q rfl (OQ.fieldA (ty := 101) (i := 0) (n := 3) (off := 0) (g := true) rfl (by kernel_rfl) (by decide)) rfl rfl rfl ?_ | refine AD.q rfl (OQ.fieldA (ty := 101) (i := 1) (n := 1) (off := 3) (g := false) rfl (by kernel_rfl) (by decide)) rfl rfl rfl ?_) | ((with_reducible refine AD.k_call ?_); first | refine AD.pcall (g := 24) rfl (by kernel_rfl) rfl ((by first | exact H1 _ | exact H2 _)) rfl rfl ?_ | refine AD.pcall (g := 92) rfl (by kernel_rfl) rfl (HM _) rfl rfl ?_ | refine AD.pcall (g := 101) rfl (by kernel_rfl) rfl (HF _) rfl rfl ?_) | ((with_reducible refine AD.k_build ?_); first | refine AD.q rfl (OQ.buildA (ty := 65) (zs := [.int .i64 0, .int .i64 0, .int .i64 0]) (n := 1) (k := 3) (g := false) (by kernel_rfl) rfl (by kernel_rfl) rfl rfl rfl) rfl rfl rfl ?_) | ((with_reducible refine AD.k_indexAddr ?_); first | refine AD.q rfl (OQ.idxAddr (ty := 22) (z := 4) (g := true) rfl rfl (by kernel_rfl) (by omega) (by omega)) rfl rfl rfl ?_)); (conv => (arg 10; try tactic => exact nrm)))
          | (refine AD.nil ?_; (conv => (arg 4; simp only [List.drop_succ_cons, List.drop_zero, List.drop_nil])); (conv => (arg 5; try tactic => exact nrm)); (conv => (arg 6; try tactic => exact nrm))))
        | ((with_reducible refine FinP.on ?_); (first | refine FinP.ret (.cellN (n := 2) (by conv => lhs; whnf) (by kernel_rfl) (by kernel_rfl) rfl (.tmp (by conv => lhs; whnf) .nil)) ?_ rfl | refine FinP.end (.cellN (n := 2) (by conv => lhs; whnf) (by kernel_rfl) (by kernel_rfl) rfl (.tmp (by conv => lhs; whnf) .nil)) ?_ rfl); (try simp only [pack, List.drop, List.take]); all_goals (rfl)))
end
end Go.Proofs.Ytnocdnhhlppahaa
