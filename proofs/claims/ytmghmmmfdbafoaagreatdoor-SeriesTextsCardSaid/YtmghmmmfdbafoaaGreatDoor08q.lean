/- Chapter 8: the examples of the document. -/
import Derived.Test.YtmghmmmfdbafoaaGreatDoor08o
import Derived.Test.YtmghmmmfdbafoaaGreatDoor08p
set_option linter.unusedSimpArgs false
set_option linter.unusedVariables false
namespace Go.Proofs.YtmghmmmfdbafoaaGreatDoor
open Go Go.RowKit Go.Ab Go.Sr
set_option maxRecDepth 100000
set_option maxHeartbeats 4000000
attribute [local irreducible] OQ OW AL AW AD AF SW

def tw : List Ep := [⟨0, 0, 0, 0⟩, ⟨10, 10, 30, 0⟩, ⟨20, 0, 40, 0⟩]
def twN : ByteArray := ⟨#[112]⟩
theorem Tower_c : ACalls Tryz.prog 14 [] [] (srV twN (.slice (some ⟨0, 0, none⟩) 3 3)) [some ⟨flatE tw, true, 4⟩] := by
  refine ACalls.enter (t := [undef, undef, undef, undef, undef, undef]) Tryz.func14 rfl rfl fun E hE => ?_
  repeat' (first
    | with_reducible refine Then.n ?_
    | with_reducible refine Then.r ?_
    | with_reducible refine Then.x ?_
    | with_reducible refine InB.n ?_
    | with_reducible refine InB.r ?_
    | with_reducible refine InB.hit ?_
    | with_reducible refine InB.miss (by decide) ?_
    | ((with_reducible refine AL.on ?_); first
      | ((first | first | refine AL.q rfl (OQ.buildS (ty := 64) (zs := [.int .i64 0, .int .i64 0, .int .i64 0, .int .i64 0]) (pls := [(0, 1), (1, 1), (2, 1), (3, 1)]) (by kernel_rfl) rfl (by kernel_rfl) rfl rfl rfl) ?_ | refine AL.q rfl (OQ.buildS (ty := 24) (zs := [.string ⟨#[]⟩, .slice none 0 0]) (pls := [(0, 1), (1, 1)]) (by kernel_rfl) rfl (by kernel_rfl) rfl rfl rfl) ?_); (conv => (arg 5; try tactic => exact nrm)))
      | ((first | ((with_reducible refine AL.k_alloc ?_); first | refine AL.w rfl (OW.alloc (ty := 24) (z := [.string ⟨#[]⟩, .slice none 0 0]) (by kernel_rfl) rfl) ?_) | ((with_reducible refine AL.k_buildSlice ?_); first | refine AL.w rfl (OW.buildSl (ty := 22) (zs := [.int .i64 0, .int .i64 0, .int .i64 0, .int .i64 0]) (n := 4) (g := true) (by kernel_rfl) (by kernel_rfl) rfl rfl rfl (by decide) (by decide) rfl rfl) ?_) | ((with_reducible refine AL.k_store ?_); first | (refine AL.w rfl (OW.store (ty := 24) (n := 2) rfl (by conv => lhs; whnf) rfl rfl (by kernel_rfl) rfl rfl (by decide) rfl (Nat.le_of_ble_eq_true rfl) (by intro r h; cases h)) ?_))); (conv => (arg 5; try tactic => exact nrm)); (conv => (arg 6; try tactic => exact nrm)))
      | refine AL.nil ?_)
    | ((with_reducible refine AW.on ?_); first
      | refine AW.seq ?_
      | refine AW.skip ?_
      | refine AW.exit ?_
      | refine AW.ret ?_
      | refine AW.block ?_
      | refine AW.region ?_
      | (refine AW.conds rfl (fun hc => ?_) (fun hc => ?_) <;> (try simp only [decide_eq_true_eq, decide_eq_false_iff_not, Bool.not_true, Bool.not_false, Bool.not_eq_true', Bool.not_eq_false', Int.not_lt, Int.not_le, Classical.not_not, ne_eq] at hc) <;> first | (exfalso; first | contradiction | (omega); done) | skip))
    | ((with_reducible refine FinA.on ?_); (refine FinA.keep 0 [1] (.inl rfl) (.cellN (n := 2) (by conv => lhs; whnf) (by kernel_rfl) (by kernel_rfl) rfl .nil) ?_ rfl (Nat.le_of_eq hE) rfl rfl ⟨⟨_, rfl, rfl, rfl, .inl ⟨rfl, rfl⟩⟩, trivial⟩; rfl)))
theorem Tower_q (m : Mem) : ACalls Tryz.prog 14 [] m (srV twN (.slice (some ⟨m.length, 0, none⟩) 3 3)) (m ++ [some ⟨flatE tw, true, 4⟩]) :=
  ACalls.viaS [] [] [some ⟨flatE tw, true, 4⟩] Tower_c trivial (by simp) ⟨⟨rfl, rfl, rfl, .inl ⟨rfl, rfl⟩⟩, trivial⟩ rfl rfl (by simp [rn3, rn2, rn1, τn]) rfl
theorem VRel.cap {ρ : Ren} {b o n c : Nat} {v : Value} (h : VRel ρ (.slice (some ⟨b, o, none⟩) n c) v) : VRel ρ (.slice (some ⟨b, o, none⟩) n INF) v := by
  cases h with
  | scal h => simp [Ab.scal] at h
  | slice h h1 h2 h3 => exact .slice h h1 (fun h => absurd h (by decide)) h3
  | empty => exact .empty
theorem PCalls.cap {f : FuncId} {nm : ByteArray} {b n c : Nat} {us : List Value} {m : Mem} {v : Value} (h : PCalls Tryz.prog f (srI nm b n :: us) m v) : PCalls Tryz.prog f (srV nm (.slice (some ⟨b, 0, none⟩) n c) :: us) m v := by
  intro ρ args' w hdom hargs hm
  refine h ρ args' w hdom ?_ hm
  obtain ⟨xs, e, hl, hg⟩ := hargs.tuple_inv
  cases e
  refine .tuple (by simpa using hl) fun i hi hi' => ?_
  match i with
  | 0 =>
    obtain ⟨u, e0, r0⟩ := hg 0 _ rfl
    rw [Array.getElem?_eq_getElem hi'] at e0
    cases e0
    obtain ⟨cs, e1, hs, hg'⟩ := r0.agg_inv
    rw [e1]
    obtain ⟨u0, f0, q0⟩ := hg' 0 _ rfl
    obtain ⟨u1, f1, q1⟩ := hg' 1 _ rfl
    refine .agg (by simpa using hs) fun j hj hj' => ?_
    match j with
    | 0 =>
      rw [Array.getElem?_eq_getElem hj'] at f0
      cases f0
      exact q0
    | 1 =>
      rw [Array.getElem?_eq_getElem hj'] at f1
      cases f1
      exact VRel.cap q1
    | j + 2 => exact absurd hj (by simp)
  | i + 1 =>
    have hi0 : i < us.length := by simpa using hi
    obtain ⟨u, e0, r0⟩ := hg (i + 1) us[i] (by simp [hi0])
    rw [Array.getElem?_eq_getElem hi'] at e0
    cases e0
    simpa using r0
theorem tw_ok : SRight tw ∧ nameB twN.data.toList = true := srE_right (by decide)
theorem Whole_q (n : Int) (m : Mem) : PCalls Tryz.prog 18 [.int .i64 n] m (.agg #[.int .i64 n, .int .i64 1]) := by
  refine PCalls.any ?_ rfl rfl m
  refine PCalls.enter (t := [.int .i64 n, undef, undef, undef, undef]) Tryz.func18 rfl (ro_nil) rfl fun E => ?_
  repeat' (first
    | with_reducible refine Then.n ?_
    | with_reducible refine Then.r ?_
    | with_reducible refine Then.x ?_
    | with_reducible refine InB.n ?_
    | with_reducible refine InB.r ?_
    | with_reducible refine InB.hit ?_
    | with_reducible refine InB.miss (by decide) ?_
    | ((with_reducible refine AL.on ?_); first
      | ((first | first | (refine AL.q rfl (OQ.move (by conv => lhs; whnf)) ?_)); (conv => (arg 5; try tactic => exact nrm)))
      | ((first | first | refine AL.q rfl (OQ.buildS (ty := 40) (zs := [.int .i64 0, .int .i64 0]) (pls := [(0, 1), (1, 1)]) (by kernel_rfl) rfl (by kernel_rfl) rfl rfl rfl) ?_); (conv => (arg 5; try tactic => exact nrm)))
      | ((first | ((with_reducible refine AL.k_alloc ?_); first | refine AL.w rfl (OW.alloc (ty := 40) (z := [.int .i64 0, .int .i64 0]) (by kernel_rfl) rfl) ?_) | ((with_reducible refine AL.k_store ?_); first | (refine AL.w rfl (OW.store (ty := 40) (n := 2) rfl (by conv => lhs; whnf) rfl rfl (by kernel_rfl) rfl rfl (by decide) rfl (Nat.le_of_ble_eq_true rfl) (by intro r h; cases h)) ?_))); (conv => (arg 5; try tactic => exact nrm)); (conv => (arg 6; try tactic => exact nrm)))
      | refine AL.nil ?_)
    | ((with_reducible refine AW.on ?_); first
      | refine AW.seq ?_
      | refine AW.skip ?_
      | refine AW.exit ?_
      | refine AW.ret ?_
      | refine AW.block ?_
      | refine AW.region ?_
      | (refine AW.conds rfl (fun hc => ?_) (fun hc => ?_) <;> (try simp only [decide_eq_true_eq, decide_eq_false_iff_not, Bool.not_true, Bool.not_false, Bool.not_eq_true', Bool.not_eq_false', Int.not_lt, Int.not_le, Classical.not_not, ne_eq] at hc) <;> first | (exfalso; first | contradiction | (omega); done) | skip))
    | ((with_reducible refine FinP.on ?_); (first | refine FinP.ret (.cellN (n := 2) (by conv => lhs; whnf) (by kernel_rfl) (by kernel_rfl) rfl .nil) ?_ rfl | refine FinP.end (.cellN (n := 2) (by conv => lhs; whnf) (by kernel_rfl) (by kernel_rfl) rfl .nil) ?_ rfl); (try simp only [pack, List.drop, List.take]); all_goals (rfl)))
theorem Solve_q {m : Mem} {b n : Nat} {blk : Blk} {l : List Ep} {nm : ByteArray} (hn : nm.size ≤ 1000) (hR : SRight l) (hN : nameB nm.data.toList = true) (hb : m.at b = some blk) (hc : blk.cells = flatE l) (hln : l.length = n) : PCalls Tryz.prog 13 [srI nm b n] m (.tuple #[slV (NM l), .int .i64 (slE (NM l))]) := by
  subst hln
  have hf : flat (.tuple #[slV (NM l), .int .i64 (slE (NM l))]) = true := by unfold slV thV; split <;> (try split) <;> rfl
  exact PCalls.via1 (fun z => Solve_c hn hR hN z) hb hc (flatE_scal l) rfl rfl (rn3_flat hf) (ok3_flat hf)
theorem tw_flat (a b d e : Int) : flat (.tuple #[twV a b d, .int .i64 e]) = true := by unfold twV; split <;> rfl
theorem SolveOnly_q {m : Mem} {b n : Nat} {blk : Blk} {l : List Ep} {nm : ByteArray} (hn : nm.size ≤ 1000) (hR : SRight l) (hN : nameB nm.data.toList = true) (hb : m.at b = some blk) (hc : blk.cells = flatE l) (hln : l.length = n) (p : Int) (hp : p = 0 ∨ p = 1) :
    PCalls Tryz.prog 15 [srI nm b n, .int .i64 p] m (.tuple #[twV (lnS (prl p l)) (lnC (prl p l)) (lnD (prl p l)), .int .i64 (twE (lnS (prl p l)) (lnC (prl p l)) (lnD (prl p l)))]) := by
  subst hln
  refine PCalls.via1 (args0 := [srI nm 0 l.length, .int .i64 p]) (fun z => ?_) hb hc (flatE_scal l) rfl rfl (rn3_flat (tw_flat _ _ _ _)) (ok3_flat (tw_flat _ _ _ _))
  rcases hp with h | h
  · exact ACalls.still (SolveOnly_a0 hn hR hN z p h) (ro1 _ rfl) (tw_flat _ _ _ _)
  · exact ACalls.still (SolveOnly_a1 hn hR hN z p h) (ro1 _ rfl) (tw_flat _ _ _ _)
theorem awake_0 : PCalls Tryz.prog 4 [] [] (.bool true) := by
  have HS : ∀ (m : Mem) (b : Nat) (blk : Blk), m.at b = some blk → blk.cells = flatE tw → PCalls Tryz.prog 13 [srV twN (.slice (some ⟨b, 0, none⟩) 3 3)] m (.tuple #[.agg #[.int .i64 2, .int .i64 1, .int .i64 1, .int .i64 1, .int .i64 0, .int .i64 1], .int .i64 0]) := fun m b blk h1 h2 => by
    have := Solve_q (m := m) (n := 3) (l := tw) (nm := twN) (by decide) tw_ok.1 tw_ok.2 h1 h2 rfl
    rw [show slV (NM tw) = .agg #[.int .i64 2, .int .i64 1, .int .i64 1, .int .i64 1, .int .i64 0, .int .i64 1] from by kernel_rfl, show slE (NM tw) = 0 from by kernel_rfl] at this
    exact PCalls.cap this
  have HO : ∀ (m : Mem) (b : Nat) (blk : Blk), m.at b = some blk → blk.cells = flatE tw → PCalls Tryz.prog 15 [srV twN (.slice (some ⟨b, 0, none⟩) 3 3), .int .i64 0] m (.tuple #[.agg #[.int .i64 2, .int .i64 1, .int .i64 10, .int .i64 3], .int .i64 0]) := fun m b blk h1 h2 => by
    have := SolveOnly_q (m := m) (n := 3) (l := tw) (nm := twN) (by decide) tw_ok.1 tw_ok.2 h1 h2 rfl 0 (.inl rfl)
    rw [show twV (lnS (prl 0 tw)) (lnC (prl 0 tw)) (lnD (prl 0 tw)) = .agg #[.int .i64 2, .int .i64 1, .int .i64 10, .int .i64 3] from by kernel_rfl, show twE (lnS (prl 0 tw)) (lnC (prl 0 tw)) (lnD (prl 0 tw)) = 0 from by kernel_rfl] at this
    exact PCalls.cap this
  have HM : ∀ m : Mem, PCalls Tryz.prog 16 [mvV 100 10 20 6 560] m (.tuple #[rgI 4 7, .int .i64 0]) := Moved_yes 100 10 20 6 560 (by decide)
  have HB : ∀ m : Mem, PCalls Tryz.prog 17 [siV 800 600 10 13 800 (-600) 6 6] m (.tuple #[.agg #[.int .i64 10, .int .i64 12, .int .i64 3, .int .i64 6], .int .i64 0]) := Box_neg 800 600 10 13 800 (-600) 6 6 (by decide) (by decide)
  have HT := Tower_q
  have HW := Whole_q
  refine PCalls.enter (t := [undef, undef, undef, undef, undef, undef, undef, undef, undef, undef, undef, undef, undef, undef, undef, undef, undef, undef, undef, undef, undef, undef, undef, undef, undef, undef, undef, undef, undef, undef, undef, undef, undef, undef, undef, undef, undef, undef, undef, undef, undef, undef, undef, undef, undef, undef, undef, undef, undef, undef, undef, undef, undef, undef, undef, undef, undef, undef, undef, undef, undef, undef, undef, undef, undef, undef, undef, undef, undef, undef, undef, undef, undef, undef, undef, undef, undef]) Tryz.func4 rfl (ro_nil) rfl fun E => ?_
  repeat' (first
    | with_reducible refine Then.n ?_
    | with_reducible refine Then.r ?_
    | with_reducible refine Then.x ?_
    | with_reducible refine InB.n ?_
    | with_reducible refine InB.r ?_
    | with_reducible refine InB.hit ?_
    | with_reducible refine InB.miss (by decide) ?_
    | ((with_reducible refine AL.on ?_); first
      | ((first | ((with_reducible refine AL.k_move ?_); first | (refine AL.q rfl (OQ.move (by conv => lhs; whnf)) ?_)) | ((with_reducible refine AL.k_extract ?_); first | refine AL.q rfl (OQ.extract rfl rfl) ?_) | ((with_reducible refine AL.k_assign ?_); first | (refine AL.q rfl (OQ.assign (by conv => lhs; whnf)) ?_))); (conv => (arg 5; try tactic => exact nrm)))
      | ((first | ((with_reducible refine AL.k_build ?_); first | refine AL.q rfl (OQ.buildS (ty := 53) (zs := [.int .i64 0, .int .i64 0, .int .i64 0, .int .i64 0, .int .i64 0]) (pls := [(0, 1), (1, 1), (2, 1), (3, 1), (4, 1)]) (by kernel_rfl) rfl (by kernel_rfl) rfl rfl rfl) ?_ | refine AL.q rfl (OQ.buildS (ty := 49) (zs := [.int .i64 0, .int .i64 0]) (pls := [(0, 1), (1, 1)]) (by kernel_rfl) rfl (by kernel_rfl) rfl rfl rfl) ?_ | refine AL.q rfl (OQ.buildS (ty := 58) (zs := [.int .i64 0, .int .i64 0, .int .i64 0, .int .i64 0]) (pls := [(0, 1), (1, 1), (2, 2)]) (by kernel_rfl) rfl (by kernel_rfl) rfl rfl rfl) ?_ | refine AL.q rfl (OQ.buildS (ty := 60) (zs := [.int .i64 0, .int .i64 0, .int .i64 0, .int .i64 0, .int .i64 0, .int .i64 0, .int .i64 0, .int .i64 0]) (pls := [(0, 4), (4, 4)]) (by kernel_rfl) rfl (by kernel_rfl) rfl rfl rfl) ?_) | ((with_reducible refine AL.k_call ?_); first | refine AL.pcall (g := 13) rfl (by kernel_rfl) rfl (HS _ _ _ rfl rfl) ?_ | refine AL.pcall (g := 15) rfl (by kernel_rfl) rfl (HO _ _ _ rfl rfl) ?_ | refine AL.pcall (g := 16) rfl (by kernel_rfl) rfl (HM _) ?_ | refine AL.pcall (g := 17) rfl (by kernel_rfl) rfl (HB _) ?_)); (conv => (arg 5; try tactic => exact nrm)))
      | ((first | ((with_reducible refine AL.k_call ?_); first | refine AL.acall (g := 14) rfl (by kernel_rfl) rfl ((by exact HT _)) ?_) | ((with_reducible refine AL.k_alloc ?_); first | refine AL.w rfl (OW.alloc (ty := 41) (z := [.int .i64 0, .int .i64 0, .int .i64 0, .int .i64 0, .int .i64 0, .int .i64 0]) (by kernel_rfl) rfl) ?_ | refine AL.w rfl (OW.alloc (ty := 45) (z := [.int .i64 0, .int .i64 0, .int .i64 0, .int .i64 0]) (by kernel_rfl) rfl) ?_ | refine AL.w rfl (OW.alloc (ty := 49) (z := [.int .i64 0, .int .i64 0]) (by kernel_rfl) rfl) ?_ | refine AL.w rfl (OW.alloc (ty := 54) (z := [.int .i64 0, .int .i64 0, .int .i64 0, .int .i64 0]) (by kernel_rfl) rfl) ?_) | ((with_reducible refine AL.k_store ?_); first | (refine AL.w rfl (OW.store (ty := 41) (n := 6) rfl (by conv => lhs; whnf) rfl rfl (by kernel_rfl) rfl rfl (by decide) rfl (Nat.le_of_ble_eq_true rfl) (by intro r h; cases h)) ?_) | (refine AL.w rfl (OW.store (ty := 45) (n := 4) rfl (by conv => lhs; whnf) rfl rfl (by kernel_rfl) rfl rfl (by decide) rfl (Nat.le_of_ble_eq_true rfl) (by intro r h; cases h)) ?_) | (refine AL.w rfl (OW.store (ty := 49) (n := 2) rfl (by conv => lhs; whnf) rfl rfl (by kernel_rfl) rfl rfl (by decide) rfl (Nat.le_of_ble_eq_true rfl) (by intro r h; cases h)) ?_) | (refine AL.w rfl (OW.store (ty := 54) (n := 4) rfl (by conv => lhs; whnf) rfl rfl (by kernel_rfl) rfl rfl (by decide) rfl (Nat.le_of_ble_eq_true rfl) (by intro r h; cases h)) ?_))); (conv => (arg 5; try tactic => exact nrm)); (conv => (arg 6; try tactic => exact nrm)))
      | refine AL.nil ?_)
    | ((with_reducible refine AW.on ?_); first
      | refine AW.seq ?_
      | refine AW.skip ?_
      | refine AW.exit ?_
      | refine AW.ret ?_
      | refine AW.block ?_
      | (refine AW.draw (id := 5) 45 #[0, 1, 3, 7, 15, 7, 63, 127, 255, 511, 1023, 511, 4095, 8191, 16383, 32767, 65535, 131071, 262143, 524287, 1048575, 524287, 4194303, 8388607, 16777215, 33554431, 67108863, 134217727, 268435455, 536870911, 536870911, 2147483647, 4294967295, 8589934591, 17179869183, 34359738367, 68719476735, 137438953471, 274877906943, 274877906943, 274877906943, 1924145348607, 4398046511103, 8796093022207, 17592186044415] (by kernel_rfl) (by kernel_rfl) ?_; (conv => (arg 8; simp only [List.take_succ_cons, List.take_zero])))
      | refine AW.region ?_
      | (refine AW.conds rfl (fun hc => ?_) (fun hc => ?_) <;> (try simp only [decide_eq_true_eq, decide_eq_false_iff_not, Bool.not_true, Bool.not_false, Bool.not_eq_true', Bool.not_eq_false', Int.not_lt, Int.not_le, Classical.not_not, ne_eq] at hc) <;> first | (exfalso; first | contradiction | (first | omega | (simp at *; done)); done) | skip))
    | ((with_reducible refine AD.on ?_); first
      | (refine AD.gskip rfl rfl rfl ?_; (conv => (arg 10; try tactic => exact nrm)))
      | ((first | refine AD.gn1 rfl rfl (by with_reducible rfl) rfl ?_ | refine AD.gn0 rfl rfl (by with_reducible rfl) rfl ?_); (conv => (arg 10; try tactic => exact nrm)))
      | ((first | ((with_reducible refine AD.k_move ?_); first | (refine AD.q rfl (OQ.move (by conv => lhs; whnf)) rfl rfl rfl ?_) | (refine AD.qc rfl rfl (by with_reducible rfl) (OQ.move (by conv => lhs; whnf)) rfl rfl rfl ?_)) | ((with_reducible refine AD.k_binOp ?_); first | refine AD.q rfl (OQ.eql rfl rfl) rfl rfl rfl ?_ | refine AD.qc rfl rfl (by with_reducible rfl) (eql_t40 rfl rfl) rfl rfl rfl ?_ | refine AD.qc rfl rfl (by with_reducible rfl) (OQ.eql rfl rfl) rfl rfl rfl ?_ | refine AD.qc rfl rfl (by with_reducible rfl) (eql_t49 rfl rfl) rfl rfl rfl ?_ | refine AD.qc rfl rfl (by with_reducible rfl) (eql_t54 rfl rfl) rfl rfl rfl ?_) | ((with_reducible refine AD.k_pick ?_); first | (refine AD.q rfl (OQ.pickT rfl (by with_reducible rfl) (by conv => lhs; whnf)) rfl rfl rfl ?_) | (refine AD.q rfl (OQ.pickF rfl (by with_reducible rfl) (by conv => lhs; whnf)) rfl rfl rfl ?_)) | ((with_reducible refine AD.k_assign ?_); first | (refine AD.q rfl (OQ.assign (by conv => lhs; whnf)) rfl rfl rfl ?_)) | ((with_reducible refine AD.k_load ?_); first | refine AD.qc rfl rfl (by with_reducible rfl) (OQ.loadN (ty := 40) (n := 2) rfl (by kernel_rfl) (by kernel_rfl) rfl) rfl rfl rfl ?_ | refine AD.qc rfl rfl (by with_reducible rfl) (OQ.loadN (ty := 49) (n := 2) rfl (by kernel_rfl) (by kernel_rfl) rfl) rfl rfl rfl ?_ | refine AD.qc rfl rfl (by with_reducible rfl) (OQ.loadN (ty := 54) (n := 4) rfl (by kernel_rfl) (by kernel_rfl) rfl) rfl rfl rfl ?_) | ((with_reducible refine AD.k_indexAddr ?_); first | refine AD.qc rfl rfl (by with_reducible rfl) (OQ.idxPtr (ty := 41) (n := 2) (l := 3) (g := true) rfl rfl (by kernel_rfl) (by omega) (by omega)) rfl rfl rfl ?_ | refine AD.qc rfl rfl (by with_reducible rfl) (OQ.idxPtr (ty := 45) (n := 2) (l := 2) (g := true) rfl rfl (by kernel_rfl) (by omega) (by omega)) rfl rfl rfl ?_)); (conv => (arg 10; try tactic => exact nrm)))
      | ((first | ((with_reducible refine AD.k_build ?_); first | refine AD.qc rfl rfl (by with_reducible rfl) (OQ.buildS (ty := 40) (zs := [.int .i64 0, .int .i64 0]) (pls := [(0, 1), (1, 1)]) (by kernel_rfl) rfl (by kernel_rfl) rfl rfl rfl) rfl rfl rfl ?_ | refine AD.qc rfl rfl (by with_reducible rfl) (OQ.buildS (ty := 49) (zs := [.int .i64 0, .int .i64 0]) (pls := [(0, 1), (1, 1)]) (by kernel_rfl) rfl (by kernel_rfl) rfl rfl rfl) rfl rfl rfl ?_ | refine AD.qc rfl rfl (by with_reducible rfl) (OQ.buildA (ty := 54) (zs := [.int .i64 0, .int .i64 0, .int .i64 0, .int .i64 0]) (n := 2) (k := 2) (g := true) (by kernel_rfl) rfl (by kernel_rfl) rfl rfl rfl) rfl rfl rfl ?_) | ((with_reducible refine AD.k_call ?_); first | refine AD.pcallc (g := 18) rfl rfl (by with_reducible rfl) rfl (by kernel_rfl) rfl (HW _ _) rfl rfl ?_)); (conv => (arg 10; try tactic => exact nrm)))
      | (refine AD.bs rfl (fun hc => ?_) (fun hc => ?_) <;> (fail_if_success (with_reducible exact lit_no hc)) <;> (try simp only [decide_eq_true_eq, decide_eq_false_iff_not, Bool.not_true, Bool.not_false, Bool.not_eq_true', Bool.not_eq_false', Int.not_lt, Int.not_le, Classical.not_not, ne_eq] at hc) <;> first | (exfalso; first | contradiction | (first | omega | (simp at *; done)); done) | (conv => (arg 10; try tactic => exact nrm)))
      | (refine AD.gs1 rfl rfl (fun hc => ?_) (fun hc => ?_) <;> (fail_if_success (with_reducible exact lit_no hc)) <;> (try simp only [decide_eq_true_eq, decide_eq_false_iff_not, Bool.not_true, Bool.not_false, Bool.not_eq_true', Bool.not_eq_false', Int.not_lt, Int.not_le, Classical.not_not, ne_eq] at hc) <;> first | (exfalso; first | contradiction | (first | omega | (simp at *; done)); done) | (conv => (arg 10; try tactic => exact nrm)))
      | (refine AD.gs0 rfl rfl (fun hc => ?_) (fun hc => ?_) <;> (fail_if_success (with_reducible exact lit_no hc)) <;> (try simp only [decide_eq_true_eq, decide_eq_false_iff_not, Bool.not_true, Bool.not_false, Bool.not_eq_true', Bool.not_eq_false', Int.not_lt, Int.not_le, Classical.not_not, ne_eq] at hc) <;> first | (exfalso; first | contradiction | (first | omega | (simp at *; done)); done) | (conv => (arg 10; try tactic => exact nrm)))
      | (refine AD.nil ?_; (conv => (arg 4; simp only [List.drop_succ_cons, List.drop_zero, List.drop_nil])); (conv => (arg 5; try tactic => exact nrm)); (conv => (arg 6; try tactic => exact nrm))))
    | ((with_reducible refine FinP.on ?_); (first | refine FinP.ret (.tmp (by conv => lhs; whnf) .nil) ?_ rfl | refine FinP.end (.tmp (by conv => lhs; whnf) .nil) ?_ rfl); (try simp only [pack, List.drop, List.take]); all_goals (rfl)))
theorem awake_q (m : Mem) : PCalls Tryz.prog 4 [] m (.bool true) := PCalls.any awake_0 rfl rfl m
end Go.Proofs.YtmghmmmfdbafoaaGreatDoor
