/- Chapter 8: the reference: Solve and SolveOnly; the copy of a series. -/
import Derived.Test.Ytnocdnhhlppahaa08v
set_option linter.unusedSimpArgs false
set_option linter.unusedVariables false
namespace Go.Proofs.Ytnocdnhhlppahaa
open Go Go.RowKit Go.Ab Go.Sr
set_option maxRecDepth 100000
set_option maxHeartbeats 4000000
attribute [local irreducible] OQ OW AL AW AD AF SW

theorem rk_det (l : List Ep) : rkF (rwT l l.length) (rwT l l.length).length < 3 ↔ (NM l).det = 0 := by
  rw [rkF_3, ← rws_w, ← nm_dN]
  rfl
theorem rn3_rk {τ : Nat → Nat} {r : Int} : rn3 τ (.tuple #[.int .i64 r, junk]) = .tuple #[.int .i64 r, junk] := rfl
theorem RankOf_q {m : Mem} {b n : Nat} {blk : Blk} (nm : ByteArray) (l : List Ep) (hR : SRight l) (hb : m.at b = some blk) (hc : blk.cells = flatE l) (hn : l.length = n) : PCalls Try.prog 78 [srI nm b n] m (.tuple #[.int .i64 (rkF (rwT l l.length) (rwT l l.length).length), junk]) := by
  subst hn
  intro ρ args' w hdom hargs hm
  refine (RankOf_c nm l hR blk.esz (ρ.via 1 fun _ => b) args' w (fun x pl hx => ?_) ?_ (fun x bk hx => ?_)).mono ?_
  · unfold Ren.via at hx
    split at hx
    · assumption
    · cases hx
  · obtain ⟨xs', e, h1, h2⟩ := hargs.tuple_inv
    cases e
    refine .tuple (by simpa using h1) fun i hi hi' => ?_
    match i, hi with
    | 0, _ =>
      obtain ⟨u', e1, e2⟩ := h2 0 _ rfl
      rw [Array.getElem?_eq_getElem hi'] at e1
      cases e1
      exact rn3_to (v := srI nm 0 l.length) e2 rfl
  · have := Mem.at_lt hx
    simp at this
    subst this
    simp [Mem.at] at hx
    subst hx
    obtain ⟨pl, hp, ⟨c, ty, fr, g1, g2, g3, g4⟩, _⟩ := hm b blk hb
    refine ⟨pl, by rw [via_get (by decide)]; exact hp, ⟨c, ty, fr, g1, g2, fun i u hu => ?_, fun h => by cases h⟩, fun h => by cases h⟩
    have hsc := List.all_eq_true.1 (flatE_scal l) u (List.mem_of_getElem? hu)
    obtain ⟨u', q1, q2⟩ := g3 i u (by rw [hc]; exact hu)
    rw [q2.of_scal hsc] at q1
    exact ⟨u, q1, .scal hsc⟩
  · rintro e w' ⟨v', rfl, hv, hbl⟩
    refine ⟨v', rfl, ?_, hbl⟩
    obtain ⟨xs', e, h1, h2⟩ := hv.tuple_inv
    cases e
    refine .tuple (by simpa using h1) fun i hi hi' => ?_
    match i, hi with
    | 0, _ =>
      obtain ⟨u', e1, e2⟩ := h2 0 _ rfl
      rw [Array.getElem?_eq_getElem hi'] at e1
      cases e1
      show VRel ρ (.int .i64 _) _
      rw [e2.int]
      exact .scal rfl
    | 1, _ => exact .junk _
theorem rSolve_c (nm : ByteArray) (l : List Ep) (hR : SRight l) (z0 : Nat) : PCalls Try.prog 21 [srI nm 0 l.length] [some ⟨flatE l, false, z0⟩] (.tuple #[slV (NM l), .int .i64 (slE (NM l))]) := by
  have HK := fun (m : Mem) (b : Nat) (blk : Blk) (hb : m.at b = some blk) (hc : blk.cells = flatE l) => RankOf_q nm l hR hb hc rfl
  have HF := fun (m : Mem) (b : Nat) (blk : Blk) (hb : m.at b = some blk) (hc : blk.cells = flatE l) => FitOf_q nm l hR hb hc rfl
  have hnb := (rws_sb hR).nb
  have f0 := hnb.fit0
  have f1 := hnb.fit1
  have f2 := hnb.fit2
  have fd := hnb.detb
  rw [show Go.Sr.nm (rws l) = NM l from rfl] at f0 f1 f2 fd
  have hrk := rk_det l
  generalize rkF (rwT l l.length) (rwT l l.length).length = rk at *
  generalize NM l = N at *
  by_cases h0 : N.det = 0
  · have hr := hrk.2 h0
    rw [show slV N = z6 by simp [slV, h0], show slE N = 30 by simp [slE, h0]]
    refine PCalls.enter (t := [srI nm 0 l.length, undef, undef, undef, undef, undef, undef, undef, undef, undef, undef, undef, undef, undef, undef, undef, undef, undef, undef]) Try.func21 rfl (ro1 _ rfl) rfl fun E => ?_
    repeat' (first
      | with_reducible refine Then.n ?_
      | with_reducible refine Then.r ?_
      | with_reducible refine Then.x ?_
      | with_reducible refine InB.n ?_
      | with_reducible refine InB.r ?_
      | with_reducible refine InB.hit ?_
      | with_reducible refine InB.miss (by decide) ?_
      | ((with_reducible refine AL.on ?_); first
        | ((first | ((with_reducible refine AL.k_assign ?_); first | (refine AL.q rfl (OQ.assign (by conv => lhs; whnf)) ?_)) | ((with_reducible refine AL.k_extract ?_); first | refine AL.q rfl (OQ.extract rfl rfl) ?_) | ((with_reducible refine AL.k_load ?_); first | refine AL.q rfl (OQ.loadN (ty := 24) (n := 2) rfl (by kernel_rfl) (by kernel_rfl) rfl) ?_) | ((with_reducible refine AL.k_move ?_); first | (refine AL.q rfl (OQ.move (by conv => lhs; whnf)) ?_)) | ((with_reducible refine AL.k_binOp ?_); first | refine AL.q rfl (OQ.lss rfl rfl) ?_)); (conv => (arg 5; try tactic => exact nrm)))
        | ((first | ((with_reducible refine AL.k_call ?_); first | refine AL.pcall (g := 78) rfl (by kernel_rfl) rfl (HK _ _ _ rfl rfl) ?_) | ((with_reducible refine AL.k_build ?_); first | refine AL.q rfl (OQ.buildA (ty := 29) (zs := [.int .i64 0, .int .i64 0, .int .i64 0, .int .i64 0, .int .i64 0, .int .i64 0]) (n := 2) (k := 3) (g := true) (by kernel_rfl) rfl (by kernel_rfl) rfl rfl rfl) ?_)); (conv => (arg 5; try tactic => exact nrm)))
        | ((first | ((with_reducible refine AL.k_store ?_); first | (refine AL.w rfl (OW.store (ty := 29) (n := 6) rfl (by conv => lhs; whnf) rfl rfl (by kernel_rfl) rfl rfl (by decide) rfl (Nat.le_of_ble_eq_true rfl) (by intro r h; cases h)) ?_)) | ((with_reducible refine AL.k_box ?_); first | (refine AL.w rfl (OW.box (by conv => lhs; whnf) (by intro r h; cases h)) ?_)) | ((with_reducible refine AL.k_alloc ?_); first | refine AL.w rfl (OW.alloc (ty := 29) (z := [.int .i64 0, .int .i64 0, .int .i64 0, .int .i64 0, .int .i64 0, .int .i64 0]) (by kernel_rfl) rfl) ?_)); (conv => (arg 5; try tactic => exact nrm)); (conv => (arg 6; try tactic => exact nrm)))
        | refine AL.nil ?_)
      | ((with_reducible refine AW.on ?_); first
        | refine AW.seq ?_
        | refine AW.skip ?_
        | refine AW.exit ?_
        | refine AW.ret ?_
        | refine AW.block ?_
        | (refine AW.region (id := 4) ?_; exfalso; omega; done)
        | refine AW.region ?_
        | (refine AW.conds rfl (fun hc => ?_) (fun hc => ?_) <;> (try simp only [decide_eq_true_eq, decide_eq_false_iff_not, Bool.not_true, Bool.not_false, Bool.not_eq_true', Bool.not_eq_false', Int.not_lt, Int.not_le, Classical.not_not, ne_eq] at hc) <;> first | (exfalso; first | contradiction | (omega); done) | skip))
      | ((with_reducible refine FinP.on ?_); (first | refine FinP.ret (.cellN (n := 6) (by conv => lhs; whnf) (by kernel_rfl) (by kernel_rfl) rfl (.tmp (by conv => lhs; whnf) .nil)) ?_ rfl | refine FinP.end (.cellN (n := 6) (by conv => lhs; whnf) (by kernel_rfl) (by kernel_rfl) rfl (.tmp (by conv => lhs; whnf) .nil)) ?_ rfl); (try simp only [pack, List.drop, List.take]); all_goals (rfl)))
  · have hr : ¬ rk < 3 := fun h => h0 (hrk.1 h)
    rw [show slV N = thV (fitF N 0) (fitF N 1) (fitF N 2) N.det by simp [slV, h0], show slE N = thE (fitF N 0) (fitF N 1) (fitF N 2) N.det by simp [slE, h0]]
    have HT := three_q (fitF N 0) (fitF N 1) (fitF N 2) N.det (by omega) (by omega) (by omega) (by omega) h0
    obtain ⟨p, q, r, s, t, u, e⟩ := th_form (fitF N 0) (fitF N 1) (fitF N 2) N.det
    rw [e] at HT ⊢
    refine PCalls.enter (t := [srI nm 0 l.length, undef, undef, undef, undef, undef, undef, undef, undef, undef, undef, undef, undef, undef, undef, undef, undef, undef, undef]) Try.func21 rfl (ro1 _ rfl) rfl fun E => ?_
    repeat' (first
      | with_reducible refine Then.n ?_
      | with_reducible refine Then.r ?_
      | with_reducible refine Then.x ?_
      | with_reducible refine InB.n ?_
      | with_reducible refine InB.r ?_
      | with_reducible refine InB.hit ?_
      | with_reducible refine InB.miss (by decide) ?_
      | ((with_reducible refine AL.on ?_); first
        | ((first | ((with_reducible refine AL.k_assign ?_); first | (refine AL.q rfl (OQ.assign (by conv => lhs; whnf)) ?_)) | ((with_reducible refine AL.k_extract ?_); first | refine AL.q rfl (OQ.extract rfl rfl) ?_) | ((with_reducible refine AL.k_load ?_); first | refine AL.q rfl (OQ.loadN (ty := 24) (n := 2) rfl (by kernel_rfl) (by kernel_rfl) rfl) ?_) | ((with_reducible refine AL.k_move ?_); first | (refine AL.q rfl (OQ.move (by conv => lhs; whnf)) ?_)) | ((with_reducible refine AL.k_binOp ?_); first | refine AL.q rfl (OQ.lss rfl rfl) ?_)); (conv => (arg 5; try tactic => exact nrm)))
        | ((first | ((with_reducible refine AL.k_call ?_); first | refine AL.pcall (g := 78) rfl (by kernel_rfl) rfl (HK _ _ _ rfl rfl) ?_ | refine AL.pcall (g := 51) rfl (by kernel_rfl) rfl (HF _ _ _ rfl rfl) ?_ | refine AL.pcall (g := 79) rfl (by kernel_rfl) rfl (HT _) ?_) | ((with_reducible refine AL.k_build ?_); first | refine AL.q rfl (OQ.buildA (ty := 29) (zs := [.int .i64 0, .int .i64 0, .int .i64 0, .int .i64 0, .int .i64 0, .int .i64 0]) (n := 2) (k := 3) (g := true) (by kernel_rfl) rfl (by kernel_rfl) rfl rfl rfl) ?_)); (conv => (arg 5; try tactic => exact nrm)))
        | ((first | ((with_reducible refine AL.k_store ?_); first | (refine AL.w rfl (OW.store (ty := 29) (n := 6) rfl (by conv => lhs; whnf) rfl rfl (by kernel_rfl) rfl rfl (by decide) rfl (Nat.le_of_ble_eq_true rfl) (by intro r h; cases h)) ?_)) | ((with_reducible refine AL.k_box ?_); first | (refine AL.w rfl (OW.box (by conv => lhs; whnf) (by intro r h; cases h)) ?_)) | ((with_reducible refine AL.k_alloc ?_); first | refine AL.w rfl (OW.alloc (ty := 29) (z := [.int .i64 0, .int .i64 0, .int .i64 0, .int .i64 0, .int .i64 0, .int .i64 0]) (by kernel_rfl) rfl) ?_)); (conv => (arg 5; try tactic => exact nrm)); (conv => (arg 6; try tactic => exact nrm)))
        | refine AL.nil ?_)
      | ((with_reducible refine AW.on ?_); first
        | refine AW.seq ?_
        | refine AW.skip ?_
        | refine AW.exit ?_
        | refine AW.ret ?_
        | refine AW.block ?_
        | (refine AW.region (id := 3) ?_; exfalso; omega; done)
        | refine AW.region ?_
        | (refine AW.conds rfl (fun hc => ?_) (fun hc => ?_) <;> (try simp only [decide_eq_true_eq, decide_eq_false_iff_not, Bool.not_true, Bool.not_false, Bool.not_eq_true', Bool.not_eq_false', Int.not_lt, Int.not_le, Classical.not_not, ne_eq] at hc) <;> first | (exfalso; first | contradiction | (omega); done) | skip))
      | ((with_reducible refine FinP.on ?_); (first | refine FinP.ret (.cellN (n := 6) (by conv => lhs; whnf) (by kernel_rfl) (by kernel_rfl) rfl (.tmp (by conv => lhs; whnf) .nil)) ?_ rfl | refine FinP.end (.cellN (n := 6) (by conv => lhs; whnf) (by kernel_rfl) (by kernel_rfl) rfl (.tmp (by conv => lhs; whnf) .nil)) ?_ rfl); (try simp only [pack, List.drop, List.take]); all_goals (rfl)))
theorem sl_flat (N : Nm) : flat (.tuple #[slV N, .int .i64 (slE N)]) = true := by unfold slV thV; split <;> (try split) <;> rfl
theorem rSolve_q {m : Mem} {b n : Nat} {blk : Blk} (nm : ByteArray) (l : List Ep) (hR : SRight l) (hb : m.at b = some blk) (hc : blk.cells = flatE l) (hn : l.length = n) : PCalls Try.prog 21 [srI nm b n] m (.tuple #[slV (NM l), .int .i64 (slE (NM l))]) := by
  subst hn
  exact PCalls.via1 (fun z => rSolve_c nm l hR z) hb hc (flatE_scal l) rfl rfl (rn3_flat (sl_flat _)) (ok3_flat (sl_flat _))

theorem line_c (L : List (Int × Int)) (hB : PB L) (hl : L.length ≤ 24) (e0 e1 : Nat) : PCalls Try.prog 82 [.slice (some ⟨0, 0, none⟩) L.length INF, .slice (some ⟨1, 0, none⟩) L.length INF] [some ⟨flatI (L.map (·.1)), false, e0⟩, some ⟨flatI (L.map (·.2)), false, e1⟩]
    (.tuple #[.int .i64 (lnS L), .int .i64 (lnC L), .int .i64 (lnD L)]) := by
  have g1 := fun (k : Nat) (hk : k < L.length) => pr_get1 (L := L) k hk
  have g2 := fun (k : Nat) (hk : k < L.length) => pr_get2 (L := L) k hk
  have hN : ∀ k, LB (ln (L.take k)) := fun k => LB.of (hB.take k) (by simp; omega)
  have hr : ∀ k, k < L.length → _ := fun k hk => hB.at k hk
  have ht := ln_take L
  rw [← lnC_eq]
  refine PCalls.enter (t := [.slice (some ⟨0, 0, none⟩) (L.length) INF, .slice (some ⟨1, 0, none⟩) (L.length) INF, undef, undef, undef, undef, undef, undef, undef, undef, undef, undef, undef, undef, undef, undef, undef, undef, undef, undef, undef, undef, undef, undef, undef, undef, undef, undef, undef, undef, undef, undef, undef, undef, undef, undef, undef, undef, undef, undef, undef, undef, undef, undef, undef, undef, undef, undef, undef, undef, undef, undef, undef, undef, undef, undef, undef, undef, undef, undef, undef, undef, undef, undef, undef, undef, undef, undef, undef, undef, undef, undef, undef, undef, undef]) Try.func82 rfl (ro2 _ _ rfl rfl) rfl fun E => ?_
  repeat' (first
    | with_reducible refine Then.n ?_
    | with_reducible refine Then.r ?_
    | with_reducible refine Then.x ?_
    | with_reducible refine InB.n ?_
    | with_reducible refine InB.r ?_
    | with_reducible refine InB.hit ?_
    | with_reducible refine InB.miss (by decide) ?_
    | ((with_reducible refine AL.on ?_); first
      | ((first | ((with_reducible refine AL.k_move ?_); first | (refine AL.q rfl (OQ.move (by conv => lhs; whnf)) ?_)) | ((with_reducible refine AL.k_assign ?_); first | (refine AL.q rfl (OQ.assign (by conv => lhs; whnf)) ?_)) | ((with_reducible refine AL.k_binOp ?_); first | refine AL.q rfl (OQ.lss rfl rfl) ?_ | refine AL.q rfl (OQ.addi rfl rfl (by omega)) ?_ | refine AL.q rfl (OQ.add rfl rfl) ?_ | refine AL.q rfl (OQ.muli rfl rfl (by omega)) ?_ | refine AL.q rfl (OQ.mul rfl rfl) ?_ | refine AL.q rfl (OQ.subi rfl rfl (by omega)) ?_ | refine AL.q rfl (OQ.sub rfl rfl) ?_) | ((with_reducible refine AL.k_call ?_); first | refine AL.q rfl (OQ.lenS (xt := 109) (r := (none, 1, false)) rfl (by kernel_rfl)) ?_)); (conv => (arg 5; try tactic => exact nrm)))
      | refine AL.nil ?_)
    | ((with_reducible refine AW.on ?_); first
      | refine AW.seq ?_
      | refine AW.skip ?_
      | refine AW.exit ?_
      | refine AW.ret ?_
      | ((refine AW.block (id := 0) ?_); (refine AW.wk (Wk.forget [true, true, false, false, false, false, false, true, true, true, true, true, true, false, false, false, false, false, false, false, false, false, false, false, false, false, false, false, false, false, false, false, false, false, false, false, false, false, false, false, false, false, false, false, false, false, false, false, false, false, false, false, false, false, false, false, false, false, false, false, false, false, false, false, false, false, false, false, false, false, false, false, false, false, false] rfl) ?_); (conv => (arg 4; simp only [fgt, if_true, if_false, Bool.false_eq_true])); (refine AW.loop (fun n t' m => ∃ (k : Nat) (N : Ln), n = L.length - k ∧ k ≤ L.length ∧ N = ln (L.take k) ∧ t' = [.slice (some ⟨0, 0, none⟩) (L.length) INF, .slice (some ⟨1, 0, none⟩) (L.length) INF, junk, junk, junk, junk, junk, .int .i64 (L.length), .int .i64 (N.x), .int .i64 (N.y), .int .i64 (N.xx), .int .i64 (N.xy), .int .i64 (k), junk, junk, junk, junk, junk, junk, junk, junk, junk, junk, junk, junk, junk, junk, junk, junk, junk, junk, junk, junk, junk, junk, junk, junk, junk, junk, junk, junk, junk, junk, junk, junk, junk, junk, junk, junk, junk, junk, junk, junk, junk, junk, junk, junk, junk, junk, junk, junk, junk, junk, junk, junk, junk, junk, junk, junk, junk, junk, junk, junk, junk, junk] ∧ m = [some ⟨flatI (L.map (·.1)), false, e0⟩, some ⟨flatI (L.map (·.2)), false, e1⟩]) (L.length) (by exact ⟨0, ln [], rfl, Nat.zero_le _, rfl, rfl, rfl⟩) ?_); (rintro n t' m ⟨k, N, rfl, hk, hNk, rfl, rfl⟩))
      | refine AW.block ?_
      | (refine AW.draw (id := 5) 38 #[0, 0, 0, 6, 14, 31, 0, 0, 0, 384, 896, 1984, 0, 0, 0, 24576, 57344, 0, 0, 393216, 917504, 2088960, 4190208, 0, 0, 0, 50331648, 117440512, 0, 0, 805306368, 1879048192, 4278190080, 8581545984, 63, 17179873279, 51547996159, 137438953471] (by kernel_rfl) (by kernel_rfl) ?_; (conv => (arg 8; simp only [List.take_succ_cons, List.take_zero])); ((obtain ⟨b1, b2, b3, b4⟩ := hNk ▸ hN k; have hx := hr k (by omega); have hp1 := mulc 160000 hx.1 hx.1 (by decide); have hp2 := mulc 6400000 hx.1 hx.2 (by decide))))
      | (refine AW.region (id := 6) ?_; ((obtain rfl : k = L.length := (by omega); rw [List.take_length] at hNk; subst hNk; obtain ⟨q1, q2, q3, q4, q5, q6, q7⟩ := ln_prod hB hl)))
      | refine AW.region ?_
      | (refine AW.conds rfl (fun hc => ?_) (fun hc => ?_) <;> (try simp only [decide_eq_true_eq, decide_eq_false_iff_not, Bool.not_true, Bool.not_false, Bool.not_eq_true', Bool.not_eq_false', Int.not_lt, Int.not_le, Classical.not_not, ne_eq] at hc) <;> first | (exfalso; first | contradiction | (omega); done) | skip))
    | ((with_reducible refine AD.on ?_); first
      | ((first | ((with_reducible refine AD.k_move ?_); first | (refine AD.q rfl (OQ.move (by conv => lhs; whnf)) rfl rfl rfl ?_)) | ((with_reducible refine AD.k_binOp ?_); first | refine AD.q rfl (OQ.addi rfl rfl (by omega)) rfl rfl rfl ?_ | refine AD.q rfl (OQ.add rfl rfl) rfl rfl rfl ?_ | refine AD.q rfl (OQ.muli rfl rfl (by omega)) rfl rfl rfl ?_ | refine AD.q rfl (OQ.mul rfl rfl) rfl rfl rfl ?_) | ((with_reducible refine AD.k_assign ?_); first | (refine AD.q rfl (OQ.assign (by conv => lhs; whnf)) rfl rfl rfl ?_)) | ((with_reducible refine AD.k_load ?_); first | (refine AD.q rfl (OQ.load1 (ty := 3) rfl (by kernel_rfl) (by first | (first | exact g1 _ (by omega) | exact g2 _ (by omega)) | (conv => lhs; whnf))) rfl rfl rfl ?_))); (conv => (arg 10; try tactic => exact nrm)))
      | ((first | first | refine AD.q rfl (OQ.idxAddr (ty := 109) (z := 1) (g := false) rfl rfl (by kernel_rfl) (by omega) (by omega)) rfl rfl rfl ?_); (conv => (arg 10; try tactic => exact nrm)))
      | (refine AD.nil ?_; (conv => (arg 4; simp only [List.drop_succ_cons, List.drop_zero, List.drop_nil])); (conv => (arg 5; try tactic => exact nrm)); (conv => (arg 6; try tactic => exact nrm))))
    | ((with_reducible refine ex_on ?_); (refine ⟨_, _, _, ?_, ?_, k + 1, _, rfl, (by omega), rfl, rfl, rfl⟩; omega; rw [ht k (by omega), ← hNk]; exact Wk.forget [true, true, false, false, false, false, false, true, true, true, true, true, true, false, false, false, false, false, false, false, false, false, false, false, false, false, false, false, false, false, false, false, false, false, false, false, false, false, false, false, false, false, false, false, false, false, false, false, false, false, false, false, false, false, false, false, false, false, false, false, false, false, false, false, false, false, false, false, false, false, false, false, false, false, false] rfl))
    | ((with_reducible refine FinP.on ?_); (first | refine FinP.ret (.tmp (by conv => lhs; whnf) (.tmp (by conv => lhs; whnf) (.tmp (by conv => lhs; whnf) .nil))) ?_ rfl | refine FinP.end (.tmp (by conv => lhs; whnf) (.tmp (by conv => lhs; whnf) (.tmp (by conv => lhs; whnf) .nil))) ?_ rfl); (try simp only [pack, List.drop, List.take]); all_goals (rfl)))
theorem line_q {m : Mem} {a b n : Nat} {k0 k1 : Blk} (L : List (Int × Int)) (hB : PB L) (hl : L.length ≤ 24) (hn : L.length = n) (h0 : m.at a = some k0) (h1 : m.at b = some k1) (hc0 : k0.cells = flatI (L.map (·.1))) (hc1 : k1.cells = flatI (L.map (·.2))) :
    PCalls Try.prog 82 [.slice (some ⟨a, 0, none⟩) n INF, .slice (some ⟨b, 0, none⟩) n INF] m (.tuple #[.int .i64 (lnS L), .int .i64 (lnC L), .int .i64 (lnD L)]) := by
  subst hn
  exact PCalls.viaS [a, b] (line_c L hB hl k0.esz k1.esz) (ro2 _ _ rfl rfl) ⟨⟨_, h0, rfl, (fun h => nomatch h), .inl ⟨hc0, flatI_scal _⟩⟩, ⟨_, h1, rfl, (fun h => nomatch h), .inl ⟨hc1, flatI_scal _⟩⟩, trivial⟩ rfl rfl rfl rfl
end Go.Proofs.Ytnocdnhhlppahaa
