/- Chapter 8: lines, fractions of one denominator. -/
import Derived.Test.YtmghmmmfdbafoaaGreatDoor08k
set_option linter.unusedSimpArgs false
set_option linter.unusedVariables false
namespace Go.Proofs.YtmghmmmfdbafoaaGreatDoor
open Go Go.RowKit Go.Ab Go.Sr
set_option maxRecDepth 100000
set_option maxHeartbeats 2000000
attribute [local irreducible] OQ OW AL AW AD AF SW

/-- Dates as they lie in the small memory. -/
inductive SlE (m : Mem) (v : Value) (l : List Ep) : Prop
  | blk (i : Nat) (k : Blk) (hv : v = .slice (some ⟨i, 0, none⟩) l.length INF) (h : m.at i = some k) (hc : k.cells = flatE l)
  | nil (hl : l = []) (hv : v = .slice none 0 0)
  | lost (hl : l = []) (hv : v = lostS)
theorem CheckSeries_q {m : Mem} {v : Value} {l : List Ep} (nm : ByteArray) (hS : SlE m v l) (hn : nm.size ≤ 1000) (hl : l.length ≤ 1000) : PCalls Tryz.prog 19 [srV nm v] m (.int .i64 (srE nm.data.toList l)) := by
  rcases hS with ⟨i, k, rfl, h, hc⟩ | ⟨rfl, hv⟩ | ⟨rfl, hv⟩
  · exact PCalls.via1 (fun z => ACalls.still (CheckSeries_a nm l hn hl z) (ro1 _ rfl) rfl) h hc (flatE_scal l) rfl rfl rfl rfl
  · exact CheckSeries_nil nm v (.inl hv) hn m
  · exact CheckSeries_nil nm v (.inr hv) hn m

theorem pr_get1 {L : List (Int × Int)} (k : Nat) (hk : k < L.length) : (flatI (L.map (·.1)))[k]? = some (.int .i64 (pr_ L k).1) := by
  have := flatI_get (L.map (·.1)) k (by simpa using hk)
  rw [Nat.mul_one] at this
  rw [this]
  unfold pr_
  rw [List.getD_eq_getElem?_getD, List.getD_eq_getElem?_getD, List.getElem?_map, List.getElem?_eq_getElem hk]
  rfl
theorem pr_get2 {L : List (Int × Int)} (k : Nat) (hk : k < L.length) : (flatI (L.map (·.2)))[k]? = some (.int .i64 (pr_ L k).2) := by
  have := flatI_get (L.map (·.2)) k (by simpa using hk)
  rw [Nat.mul_one] at this
  rw [this]
  unfold pr_
  rw [List.getD_eq_getElem?_getD, List.getD_eq_getElem?_getD, List.getElem?_map, List.getElem?_eq_getElem hk]
  rfl
theorem lineOf_c (L : List (Int × Int)) (hB : PB L) (hl : L.length ≤ 24) (e0 e1 : Nat) : PCalls Tryz.prog 36 [.slice (some ⟨0, 0, none⟩) L.length INF, .slice (some ⟨1, 0, none⟩) L.length INF] [some ⟨flatI (L.map (·.1)), false, e0⟩, some ⟨flatI (L.map (·.2)), false, e1⟩]
    (.agg #[.int .i64 (lnS L), .int .i64 (lnC L), .int .i64 (lnD L)]) := by
  have g1 := fun (k : Nat) (hk : k < L.length) => pr_get1 (L := L) k hk
  have g2 := fun (k : Nat) (hk : k < L.length) => pr_get2 (L := L) k hk
  have hN : ∀ k, LB (ln (L.take k)) := fun k => LB.of (hB.take k) (by simp; omega)
  have hr : ∀ k, k < L.length → _ := fun k hk => hB.at k hk
  have ht := ln_take L
  refine PCalls.enter (t := [.slice (some ⟨0, 0, none⟩) (L.length) INF, .slice (some ⟨1, 0, none⟩) (L.length) INF, undef, undef, undef, undef, undef, undef, undef, undef, undef, undef, undef, undef, undef, undef, undef, undef, undef, undef, undef, undef, undef, undef, undef, undef, undef, undef, undef, undef, undef, undef, undef, undef, undef, undef, undef, undef, undef, undef, undef, undef, undef, undef, undef, undef, undef, undef, undef, undef, undef, undef, undef, undef, undef, undef, undef, undef, undef, undef, undef, undef, undef, undef, undef, undef]) Tryz.func36 rfl (ro2 _ _ rfl rfl) rfl fun E => ?_
  repeat' (first
    | with_reducible refine Then.n ?_
    | with_reducible refine Then.r ?_
    | with_reducible refine Then.x ?_
    | with_reducible refine InB.n ?_
    | with_reducible refine InB.r ?_
    | with_reducible refine InB.hit ?_
    | with_reducible refine InB.miss (by decide) ?_
    | ((with_reducible refine AL.on ?_); first
      | ((first | ((with_reducible refine AL.k_move ?_); first | (refine AL.q rfl (OQ.move (by conv => lhs; whnf)) ?_)) | ((with_reducible refine AL.k_binOp ?_); first | refine AL.q rfl (OQ.lss rfl rfl) ?_ | refine AL.q rfl (OQ.addi rfl rfl (by omega)) ?_ | refine AL.q rfl (OQ.add rfl rfl) ?_ | refine AL.q rfl (OQ.muli rfl rfl (by omega)) ?_ | refine AL.q rfl (OQ.mul rfl rfl) ?_ | refine AL.q rfl (OQ.subi rfl rfl (by omega)) ?_ | refine AL.q rfl (OQ.sub rfl rfl) ?_) | ((with_reducible refine AL.k_assign ?_); first | (refine AL.q rfl (OQ.assign (by conv => lhs; whnf)) ?_)) | ((with_reducible refine AL.k_load ?_); first | (refine AL.q rfl (OQ.load1 (ty := 3) rfl (by kernel_rfl) (by first | (first | exact g1 _ (by omega) | exact g2 _ (by omega)) | (conv => lhs; whnf))) ?_)) | ((with_reducible refine AL.k_call ?_); first | refine AL.q rfl (OQ.lenS (xt := 83) (r := (none, 1, false)) rfl (by kernel_rfl)) ?_)); (conv => (arg 5; try tactic => exact nrm)))
      | ((first | ((with_reducible refine AL.k_indexAddr ?_); first | refine AL.q rfl (OQ.idxAddr (ty := 83) (z := 1) (g := false) rfl rfl (by kernel_rfl) (by omega) (by omega)) ?_) | ((with_reducible refine AL.k_build ?_); first | refine AL.q rfl (OQ.buildS (ty := 98) (zs := [.int .i64 0, .int .i64 0, .int .i64 0]) (pls := [(0, 1), (1, 1), (2, 1)]) (by kernel_rfl) rfl (by kernel_rfl) rfl rfl rfl) ?_)); (conv => (arg 5; try tactic => exact nrm)))
      | ((first | ((with_reducible refine AL.k_alloc ?_); first | refine AL.w rfl (OW.alloc (ty := 98) (z := [.int .i64 0, .int .i64 0, .int .i64 0]) (by kernel_rfl) rfl) ?_) | ((with_reducible refine AL.k_store ?_); first | (refine AL.w rfl (OW.store (ty := 98) (n := 3) rfl (by conv => lhs; whnf) rfl rfl (by kernel_rfl) rfl rfl (by decide) rfl (Nat.le_of_ble_eq_true rfl) (by intro r h; cases h)) ?_))); (conv => (arg 5; try tactic => exact nrm)); (conv => (arg 6; try tactic => exact nrm)))
      | refine AL.nil ?_)
    | ((with_reducible refine AW.on ?_); first
      | refine AW.seq ?_
      | refine AW.skip ?_
      | refine AW.exit ?_
      | refine AW.ret ?_
      | ((refine AW.block (id := 0) ?_); (refine AW.wk (Wk.forget [true, true, false, false, true, true, true, true, true, false, false, false, true, true, true, false, false, false, false, false, false, false, false, false, false, false, false, false, false, false, false, false, false, false, false, false, false, false, false, false, false, false, false, false, false, false, false, false, false, false, false, false, false, false, false, false, false, false, false, false, false, false, false, false, false, false] rfl) ?_); (conv => (arg 4; simp only [fgt, if_true, if_false, Bool.false_eq_true])); (refine AW.loop (fun n t' m => ∃ (k : Nat) (N : Ln), n = L.length - k ∧ k ≤ L.length ∧ N = ln (L.take k) ∧ t' = [.slice (some ⟨0, 0, none⟩) (L.length) INF, .slice (some ⟨1, 0, none⟩) (L.length) INF, junk, junk, .pointer (some ⟨2, 0, none⟩), .int .i64 (N.x), .int .i64 (N.xx), .int .i64 (N.xy), .int .i64 (N.y), junk, junk, junk, .slice (some ⟨0, 0, none⟩) (L.length) INF, .int .i64 (L.length), .int .i64 (k), junk, junk, junk, junk, junk, junk, junk, junk, junk, junk, junk, junk, junk, junk, junk, junk, junk, junk, junk, junk, junk, junk, junk, junk, junk, junk, junk, junk, junk, junk, junk, junk, junk, junk, junk, junk, junk, junk, junk, junk, junk, junk, junk, junk, junk, junk, junk, junk, junk, junk, junk] ∧ m = [some ⟨flatI (L.map (·.1)), false, e0⟩, some ⟨flatI (L.map (·.2)), false, e1⟩, some ⟨[.int .i64 (0), .int .i64 (0), .int .i64 (0)], true, 0⟩]) (L.length) (by exact ⟨0, ln [], rfl, Nat.zero_le _, rfl, rfl, rfl⟩) ?_); (rintro n t' m ⟨k, N, rfl, hk, hNk, rfl, rfl⟩))
      | refine AW.block ?_
      | (refine AW.draw (id := 5) 26 #[0, 0, 3, 0, 0, 0, 48, 120, 0, 0, 0, 0, 3072, 7168, 15872, 32512, 0, 0, 0, 393216, 917504, 2031616, 7, 4194559, 12648447, 33554431] (by kernel_rfl) (by kernel_rfl) ?_; (conv => (arg 8; simp only [List.take_succ_cons, List.take_zero])); ((obtain ⟨b1, b2, b3, b4⟩ := hNk ▸ hN k; have hx := hr k (by omega); have hp1 := mulc 160000 hx.1 hx.1 (by decide); have hp2 := mulc 6400000 hx.1 hx.2 (by decide))))
      | (refine AW.region (id := 8) ?_; ((obtain rfl : k = L.length := (by omega); rw [List.take_length] at hNk; subst hNk; obtain ⟨q1, q2, q3, q4, q5, q6, q7⟩ := ln_prod hB hl)))
      | refine AW.region ?_
      | (refine AW.conds rfl (fun hc => ?_) (fun hc => ?_) <;> (try simp only [decide_eq_true_eq, decide_eq_false_iff_not, Bool.not_true, Bool.not_false, Bool.not_eq_true', Bool.not_eq_false', Int.not_lt, Int.not_le, Classical.not_not, ne_eq] at hc) <;> first | (exfalso; first | contradiction | (omega); done) | skip))
    | ((with_reducible refine AD.on ?_); first
      | ((first | ((with_reducible refine AD.k_move ?_); first | (refine AD.q rfl (OQ.move (by conv => lhs; whnf)) rfl rfl rfl ?_)) | ((with_reducible refine AD.k_binOp ?_); first | refine AD.q rfl (OQ.addi rfl rfl (by omega)) rfl rfl rfl ?_ | refine AD.q rfl (OQ.add rfl rfl) rfl rfl rfl ?_ | refine AD.q rfl (OQ.muli rfl rfl (by omega)) rfl rfl rfl ?_ | refine AD.q rfl (OQ.mul rfl rfl) rfl rfl rfl ?_) | ((with_reducible refine AD.k_assign ?_); first | (refine AD.q rfl (OQ.assign (by conv => lhs; whnf)) rfl rfl rfl ?_)) | ((with_reducible refine AD.k_load ?_); first | (refine AD.q rfl (OQ.load1 (ty := 3) rfl (by kernel_rfl) (by first | (first | exact g1 _ (by omega) | exact g2 _ (by omega)) | (conv => lhs; whnf))) rfl rfl rfl ?_))); (conv => (arg 10; try tactic => exact nrm)))
      | ((first | first | refine AD.q rfl (OQ.idxAddr (ty := 83) (z := 1) (g := false) rfl rfl (by kernel_rfl) (by omega) (by omega)) rfl rfl rfl ?_); (conv => (arg 10; try tactic => exact nrm)))
      | (refine AD.nil ?_; (conv => (arg 4; simp only [List.drop_succ_cons, List.drop_zero, List.drop_nil])); (conv => (arg 5; try tactic => exact nrm)); (conv => (arg 6; try tactic => exact nrm))))
    | ((with_reducible refine ex_on ?_); (refine ⟨_, _, _, ?_, ?_, k + 1, _, rfl, (by omega), rfl, rfl, rfl⟩; omega; rw [ht k (by omega), ← hNk]; exact Wk.forget [true, true, false, false, true, true, true, true, true, false, false, false, true, true, true, false, false, false, false, false, false, false, false, false, false, false, false, false, false, false, false, false, false, false, false, false, false, false, false, false, false, false, false, false, false, false, false, false, false, false, false, false, false, false, false, false, false, false, false, false, false, false, false, false, false, false] rfl))
    | ((with_reducible refine FinP.on ?_); (first | refine FinP.ret (.cellN (n := 3) (by conv => lhs; whnf) (by kernel_rfl) (by kernel_rfl) rfl .nil) ?_ rfl | refine FinP.end (.cellN (n := 3) (by conv => lhs; whnf) (by kernel_rfl) (by kernel_rfl) rfl .nil) ?_ rfl); (try simp only [pack, List.drop, List.take]); all_goals (rfl)))
theorem lineOf_q {m : Mem} {a b : Nat} {o0 o1 : Bool} {e0 e1 n : Nat} (L : List (Int × Int)) (hB : PB L) (hl : L.length ≤ 24) (hn : L.length = n) (h0 : m.at a = some ⟨flatI (L.map (·.1)), o0, e0⟩) (h1 : m.at b = some ⟨flatI (L.map (·.2)), o1, e1⟩) :
    PCalls Tryz.prog 36 [.slice (some ⟨a, 0, none⟩) n INF, .slice (some ⟨b, 0, none⟩) n INF] m (.agg #[.int .i64 (lnS L), .int .i64 (lnC L), .int .i64 (lnD L)]) := by
  subst hn
  exact PCalls.viaS [a, b] (lineOf_c L hB hl e0 e1) (ro2 _ _ rfl rfl) ⟨⟨_, h0, rfl, (fun h => nomatch h), .inl ⟨rfl, flatI_scal _⟩⟩, ⟨_, h1, rfl, (fun h => nomatch h), .inl ⟨rfl, flatI_scal _⟩⟩, trivial⟩ rfl rfl rfl rfl

/-- Fractions with one denominator. -/
def frL (d : Int) (L : List Int) : List (Int × Int) := L.map fun n => (frN n d, frD n d)
theorem frL_succ (d : Int) (L : List Int) (k : Nat) (h : k < L.length) : frL d (L.take (k + 1)) = frL d (L.take k) ++ [(frN (L.getD k 0) d, frD (L.getD k 0) d)] := by
  unfold frL
  rw [List.take_add_one, List.getElem?_eq_getElem h, Option.toList_some, List.map_append, List.getD_eq_getElem?_getD, List.getElem?_eq_getElem h]
  rfl
theorem frL_len (d : Int) (L : List Int) (k : Nat) (h : k ≤ L.length) : (frL d (L.take k)).length = k := by simp [frL]; omega
def IB (L : List Int) : Prop := ∀ k, k < L.length → -9000000000000000000 ≤ L.getD k 0 ∧ L.getD k 0 ≤ 9000000000000000000
theorem fracs_a (d : Int) (L : List Int) (c z0 : Nat) (h0 : d ≠ 0) (hd : -9000000000000000000 ≤ d ∧ d ≤ 9000000000000000000) (hB : IB L) (h1 : 1 ≤ L.length) (hl : L.length ≤ 1000) (hs : ∀ k, k < L.length → frSm (L.getD k 0) d = true) :
    ACalls Tryz.prog 33 [.int .i64 d, .slice (some ⟨0, 0, none⟩) L.length c] [some ⟨flatI L, false, z0⟩] (.tuple #[.slice (some ⟨1, 0, none⟩) L.length INF, .int .i64 0]) [some ⟨flatI L, false, z0⟩, some ⟨flatF (frL d L), true, 2⟩] := by
  have g1 : ∀ k, k < L.length → (flatI L)[k]? = some (.int .i64 (L.getD k 0)) := fun (k : Nat) (hk : k < L.length) => by
    have := flatI_get L k hk
    rwa [Nat.mul_one] at this
  have HF : ∀ k, k < L.length → ∀ m : Mem, PCalls Tryz.prog 58 [.int .i64 (L.getD k 0), .int .i64 d] m (.tuple #[.agg #[.int .i64 (frN (L.getD k 0) d), .int .i64 (frD (L.getD k 0) d)], .int .i64 0]) := fun k hk m => by
    have := frac_q (L.getD k 0) d (hB k hk) hd h0 m
    rwa [(frV_ok (hs k hk)).1, (frV_ok (hs k hk)).2] at this
  have hsu := frL_succ d L
  have hle := frL_len d L
  refine ACalls.enter (t := [.int .i64 d, .slice (some ⟨0, 0, none⟩) L.length c, undef, undef, undef, undef, undef, undef, undef, undef, undef, undef, undef, undef, undef, undef, undef, undef, undef, undef, undef, undef, undef, undef, undef, undef, undef, undef, undef, undef, undef, undef]) Tryz.func33 rfl rfl fun E hE => ?_
  repeat' (first
    | with_reducible refine Then.n ?_
    | with_reducible refine Then.r ?_
    | with_reducible refine Then.x ?_
    | with_reducible refine InB.n ?_
    | with_reducible refine InB.r ?_
    | with_reducible refine InB.hit ?_
    | with_reducible refine InB.miss (by decide) ?_
    | ((with_reducible refine AL.on ?_); first
      | ((first | ((with_reducible refine AL.k_assign ?_); first | (refine AL.q rfl (OQ.assign (by conv => lhs; whnf)) ?_)) | ((with_reducible refine AL.k_move ?_); first | (refine AL.q rfl (OQ.move (by conv => lhs; whnf)) ?_)) | ((with_reducible refine AL.k_call ?_); first | refine AL.q rfl (OQ.lenS (xt := 83) (r := (none, 1, false)) rfl (by kernel_rfl)) ?_) | ((with_reducible refine AL.k_binOp ?_); first | refine AL.q rfl (OQ.lss rfl rfl) ?_ | refine AL.q rfl (OQ.neq rfl rfl) ?_ | refine AL.q rfl (OQ.addi rfl rfl (by omega)) ?_ | refine AL.q rfl (OQ.add rfl rfl) ?_) | ((with_reducible refine AL.k_load ?_); first | (refine AL.q rfl (OQ.load1 (ty := 3) rfl (by kernel_rfl) (by first | (exact g1 _ (by omega)) | (conv => lhs; whnf))) ?_) | refine AL.q rfl (OQ.loadN (ty := 40) (n := 2) rfl (by kernel_rfl) (by kernel_rfl) (by first | (exact g1 _ (by omega)) | rfl)) ?_) | ((with_reducible refine AL.k_extract ?_); first | refine AL.q rfl (OQ.extract rfl rfl) ?_)); (conv => (arg 5; try tactic => exact nrm)))
      | ((first | ((with_reducible refine AL.k_call ?_); first | refine AL.pcall (g := 58) rfl (by kernel_rfl) rfl (HF _ (by omega) _) ?_) | ((with_reducible refine AL.k_indexAddr ?_); first | refine AL.q rfl (OQ.idxAddr (ty := 83) (z := 1) (g := false) rfl rfl (by kernel_rfl) (by omega) (by omega)) ?_)); (conv => (arg 5; try tactic => exact nrm)))
      | ((first | ((with_reducible refine AL.k_call ?_); first | refine AL.w rfl (by first | exact OW.appendNil (e := 40) (z := 2) (zs := [.int .i64 0, .int .i64 0]) (by' := 16) rfl rfl (by kernel_rfl) (by kernel_rfl) (by kernel_rfl) rfl (by kernel_rfl) (by decide) rfl (by decide) (by decide) | exact OW.appendL (e := 40) (z := 2) (zs := [.int .i64 0, .int .i64 0]) (by' := 16) rfl rfl (by kernel_rfl) (by kernel_rfl) (by kernel_rfl) rfl (by kernel_rfl) (by decide) rfl rfl rfl (by decide) (by exact flatF_len _) rfl rfl (by omega) (by omega)) ?_) | ((with_reducible refine AL.k_alloc ?_); first | refine AL.w rfl (OW.alloc (ty := 40) (z := [.int .i64 0, .int .i64 0]) (by kernel_rfl) rfl) ?_) | ((with_reducible refine AL.k_store ?_); first | (refine AL.w rfl (OW.store (ty := 40) (n := 2) rfl (by conv => lhs; whnf) rfl rfl (by kernel_rfl) rfl rfl (by decide) rfl (Nat.le_of_ble_eq_true rfl) (by intro r h; cases h)) ?_)) | ((with_reducible refine AL.k_buildSlice ?_); first | refine AL.w rfl (OW.buildSl (ty := 93) (zs := [.int .i64 0, .int .i64 0]) (n := 2) (g := true) (by kernel_rfl) (by kernel_rfl) rfl rfl rfl (by decide) (by decide) rfl rfl) ?_)); (conv => (arg 5; try tactic => exact nrm)); (conv => (arg 6; try tactic => exact nrm)))
      | refine AL.nil ?_)
    | ((with_reducible refine AW.on ?_); first
      | refine AW.seq ?_
      | refine AW.skip ?_
      | refine AW.exit ?_
      | refine AW.ret ?_
      | ((refine AW.block (id := 0) ?_); (refine AW.wk (Wk.forget [true, false, false, false, false, false, true, false, false, false, false, true, true, true, false, false, false, false, false, false, false, false, false, false, false, false, false, false, false, false, false, false] rfl) ?_); (conv => (arg 4; simp only [fgt, if_true, if_false, Bool.false_eq_true])); (refine AW.loop (fun n t' m => ∃ k : Nat, n = L.length - k ∧ k ≤ L.length ∧ ((k = 0 ∧ t' = [.int .i64 (d), junk, junk, junk, junk, junk, .slice none 0 0, junk, junk, junk, junk, .slice (some ⟨0, 0, none⟩) L.length c, .int .i64 (L.length), .int .i64 (0), junk, junk, junk, junk, junk, junk, junk, junk, junk, junk, junk, junk, junk, junk, junk, junk, junk, junk] ∧ m = [some ⟨flatI L, false, z0⟩]) ∨ (0 < k ∧ t' = [.int .i64 (d), junk, junk, junk, junk, junk, .slice (some ⟨1, 0, none⟩) ((frL d (L.take k)).length) INF, junk, junk, junk, junk, .slice (some ⟨0, 0, none⟩) L.length c, .int .i64 (L.length), .int .i64 (k), junk, junk, junk, junk, junk, junk, junk, junk, junk, junk, junk, junk, junk, junk, junk, junk, junk, junk] ∧ m = [some ⟨flatI L, false, z0⟩, some ⟨flatF (frL d (L.take k)), true, 2⟩]))) (L.length) (by exact ⟨0, rfl, Nat.zero_le _, .inl ⟨rfl, rfl, rfl⟩⟩) ?_); (rintro n t' m ⟨k, rfl, hk, (⟨rfl, rfl, rfl⟩ | ⟨hk0, rfl, rfl⟩)⟩))
      | refine AW.block ?_
      | (refine AW.region (id := 3) ?_; ((have hlk := hle k hk)))
      | (refine AW.region (id := 7) ?_; exfalso; omega; done)
      | refine AW.region ?_
      | (refine AW.conds rfl (fun hc => ?_) (fun hc => ?_) <;> (try simp only [decide_eq_true_eq, decide_eq_false_iff_not, Bool.not_true, Bool.not_false, Bool.not_eq_true', Bool.not_eq_false', Int.not_lt, Int.not_le, Classical.not_not, ne_eq] at hc) <;> first | (exfalso; first | contradiction | (omega); done) | skip))
    | ((with_reducible refine ex_on ?_); first | (refine ⟨L.length - (0 + 1), [.int .i64 (d), junk, junk, junk, junk, junk, .slice (some ⟨1, 0, none⟩) (1) INF, junk, junk, junk, junk, .slice (some ⟨0, 0, none⟩) L.length c, .int .i64 (L.length), .int .i64 (1), junk, junk, junk, junk, junk, junk, junk, junk, junk, junk, junk, junk, junk, junk, junk, junk, junk, junk], [some ⟨flatI L, false, z0⟩, some ⟨flatF [(frN (L.getD 0 0) d, frD (L.getD 0 0) d)], true, 2⟩], by omega, ?_, 1, rfl, by omega, .inr ⟨by omega, by rw [hsu 0 (by omega)]; rfl, by rw [hsu 0 (by omega)]; rfl⟩⟩; exact Wk.keep 1 [3] (Nat.le_of_eq hE) rfl rfl (by repeat (first | exact RenT.nil | refine RenT.junk ?_ | refine RenT.val (by first | rfl | with_reducible assumption | (simp only [rn3, rn2, rn1, kσ]; done)) (by first | rfl | assumption | (simp [ok3, ok2, ok1]; done)) ?_)) ⟨⟨_, rfl, rfl, rfl, .inl ⟨rfl, flatI_scal L⟩⟩, ⟨_, rfl, rfl, rfl, .inl ⟨rfl, rfl⟩⟩, trivial⟩) | (refine ⟨L.length - (k + 1), [.int .i64 (d), junk, junk, junk, junk, junk, .slice (some ⟨1, 0, none⟩) ((frL d (L.take k)).length + 1) INF, junk, junk, junk, junk, .slice (some ⟨0, 0, none⟩) L.length c, .int .i64 (L.length), .int .i64 (k + 1), junk, junk, junk, junk, junk, junk, junk, junk, junk, junk, junk, junk, junk, junk, junk, junk, junk, junk], [some ⟨flatI L, false, z0⟩, some ⟨flatF (frL d (L.take k) ++ [(frN (L.getD k 0) d, frD (L.getD k 0) d)]), true, 2⟩], by omega, ?_, k + 1, rfl, by omega, .inr ⟨by omega, by rw [hsu k (by omega), List.length_append]; rfl, by rw [hsu k (by omega)]⟩⟩; exact Wk.keep 1 [4] (Nat.le_of_eq hE) rfl rfl (by repeat (first | exact RenT.nil | refine RenT.junk ?_ | refine RenT.val (by first | rfl | with_reducible assumption | (simp only [rn3, rn2, rn1, kσ]; done)) (by first | rfl | assumption | (simp [ok3, ok2, ok1]; done)) ?_)) ⟨⟨_, rfl, rfl, rfl, .inl ⟨rfl, flatI_scal L⟩⟩, ⟨_, rfl, rfl, rfl, .inl ⟨flatF_snoc _ _, flatF_scal _⟩⟩, trivial⟩))
    | ((with_reducible refine FinA.on ?_); (obtain rfl : k = L.length := (by omega); rw [List.take_length]; rw [show (frL d L).length = L.length by simp [frL]]; refine FinA.keep 2 [] (.inl rfl) (.tmp (by conv => lhs; whnf) (.tmp (by conv => lhs; whnf) .nil)) ?_ rfl (by rw [hE]; exact (by decide : 1 ≤ 2)) rfl rfl ⟨⟨_, rfl, rfl, rfl, .inl ⟨rfl, flatI_scal L⟩⟩, ⟨_, rfl, rfl, rfl, .inl ⟨rfl, flatF_scal _⟩⟩, trivial⟩; rfl)))

theorem fracs_n (d : Int) (L : List Int) (c z0 : Nat) (h0 : d ≠ 0) (hd : -9000000000000000000 ≤ d ∧ d ≤ 9000000000000000000) (hB : IB L) (hl : L.length ≤ 1000) (j : Nat) (hj : j < L.length) (hs : ∀ k, k < j → frSm (L.getD k 0) d = true) (hno : frSm (L.getD j 0) d = false) :
    ACalls Tryz.prog 33 [.int .i64 d, .slice (some ⟨0, 0, none⟩) L.length c] [some ⟨flatI L, false, z0⟩] (.tuple #[.slice none 0 0, .int .i64 8]) [some ⟨flatI L, false, z0⟩] := by
  have g1 : ∀ k, k < L.length → (flatI L)[k]? = some (.int .i64 (L.getD k 0)) := fun (k : Nat) (hk : k < L.length) => by
    have := flatI_get L k hk
    rwa [Nat.mul_one] at this
  have HF : ∀ k, k < j → ∀ m : Mem, PCalls Tryz.prog 58 [.int .i64 (L.getD k 0), .int .i64 d] m (.tuple #[.agg #[.int .i64 (frN (L.getD k 0) d), .int .i64 (frD (L.getD k 0) d)], .int .i64 0]) := fun k hk m => by
    have := frac_q (L.getD k 0) d (hB k (by omega)) hd h0 m
    rwa [(frV_ok (hs k hk)).1, (frV_ok (hs k hk)).2] at this
  have HG : ∀ m : Mem, PCalls Tryz.prog 58 [.int .i64 (L.getD j 0), .int .i64 d] m (.tuple #[.agg #[.int .i64 0, .int .i64 0], .int .i64 8]) := fun m => by
    have := frac_q (L.getD j 0) d (hB j hj) hd h0 m
    rwa [(frV_no hno).1, (frV_no hno).2] at this
  have hsu := frL_succ d L
  have hle := frL_len d L
  refine ACalls.enter (t := [.int .i64 d, .slice (some ⟨0, 0, none⟩) L.length c, undef, undef, undef, undef, undef, undef, undef, undef, undef, undef, undef, undef, undef, undef, undef, undef, undef, undef, undef, undef, undef, undef, undef, undef, undef, undef, undef, undef, undef, undef]) Tryz.func33 rfl rfl fun E hE => ?_
  repeat' (first
    | with_reducible refine Then.n ?_
    | with_reducible refine Then.r ?_
    | with_reducible refine Then.x ?_
    | with_reducible refine InB.n ?_
    | with_reducible refine InB.r ?_
    | with_reducible refine InB.hit ?_
    | with_reducible refine InB.miss (by decide) ?_
    | ((with_reducible refine AL.on ?_); first
      | ((first | ((with_reducible refine AL.k_assign ?_); first | (refine AL.q rfl (OQ.assign (by conv => lhs; whnf)) ?_)) | ((with_reducible refine AL.k_move ?_); first | (refine AL.q rfl (OQ.move (by conv => lhs; whnf)) ?_)) | ((with_reducible refine AL.k_call ?_); first | refine AL.q rfl (OQ.lenS (xt := 83) (r := (none, 1, false)) rfl (by kernel_rfl)) ?_) | ((with_reducible refine AL.k_binOp ?_); first | refine AL.q rfl (OQ.lss rfl rfl) ?_ | refine AL.q rfl (OQ.neq rfl rfl) ?_ | refine AL.q rfl (OQ.addi rfl rfl (by omega)) ?_ | refine AL.q rfl (OQ.add rfl rfl) ?_) | ((with_reducible refine AL.k_load ?_); first | (refine AL.q rfl (OQ.load1 (ty := 3) rfl (by kernel_rfl) (by first | (exact g1 _ (by omega)) | (conv => lhs; whnf))) ?_) | refine AL.q rfl (OQ.loadN (ty := 40) (n := 2) rfl (by kernel_rfl) (by kernel_rfl) (by first | (exact g1 _ (by omega)) | rfl)) ?_) | ((with_reducible refine AL.k_extract ?_); first | refine AL.q rfl (OQ.extract rfl rfl) ?_)); (conv => (arg 5; try tactic => exact nrm)))
      | ((first | ((with_reducible refine AL.k_call ?_); first | refine AL.pcall (g := 58) rfl (by kernel_rfl) rfl ((by first | exact HF _ (by omega) _ | exact HG _)) ?_) | ((with_reducible refine AL.k_indexAddr ?_); first | refine AL.q rfl (OQ.idxAddr (ty := 83) (z := 1) (g := false) rfl rfl (by kernel_rfl) (by omega) (by omega)) ?_)); (conv => (arg 5; try tactic => exact nrm)))
      | ((first | ((with_reducible refine AL.k_call ?_); first | refine AL.w rfl (by first | exact OW.appendNil (e := 40) (z := 2) (zs := [.int .i64 0, .int .i64 0]) (by' := 16) rfl rfl (by kernel_rfl) (by kernel_rfl) (by kernel_rfl) rfl (by kernel_rfl) (by decide) rfl (by decide) (by decide) | exact OW.appendL (e := 40) (z := 2) (zs := [.int .i64 0, .int .i64 0]) (by' := 16) rfl rfl (by kernel_rfl) (by kernel_rfl) (by kernel_rfl) rfl (by kernel_rfl) (by decide) rfl rfl rfl (by decide) (by exact flatF_len _) rfl rfl (by omega) (by omega)) ?_) | ((with_reducible refine AL.k_alloc ?_); first | refine AL.w rfl (OW.alloc (ty := 40) (z := [.int .i64 0, .int .i64 0]) (by kernel_rfl) rfl) ?_) | ((with_reducible refine AL.k_store ?_); first | (refine AL.w rfl (OW.store (ty := 40) (n := 2) rfl (by conv => lhs; whnf) rfl rfl (by kernel_rfl) rfl rfl (by decide) rfl (Nat.le_of_ble_eq_true rfl) (by intro r h; cases h)) ?_)) | ((with_reducible refine AL.k_buildSlice ?_); first | refine AL.w rfl (OW.buildSl (ty := 93) (zs := [.int .i64 0, .int .i64 0]) (n := 2) (g := true) (by kernel_rfl) (by kernel_rfl) rfl rfl rfl (by decide) (by decide) rfl rfl) ?_)); (conv => (arg 5; try tactic => exact nrm)); (conv => (arg 6; try tactic => exact nrm)))
      | refine AL.nil ?_)
    | ((with_reducible refine AW.on ?_); first
      | refine AW.seq ?_
      | refine AW.skip ?_
      | refine AW.exit ?_
      | refine AW.ret ?_
      | ((refine AW.block (id := 0) ?_); (refine AW.wk (Wk.forget [true, false, false, false, false, false, true, false, false, false, false, true, true, true, false, false, false, false, false, false, false, false, false, false, false, false, false, false, false, false, false, false] rfl) ?_); (conv => (arg 4; simp only [fgt, if_true, if_false, Bool.false_eq_true])); (refine AW.loop (fun n t' m => ∃ k : Nat, n = L.length - k ∧ k ≤ j ∧ ((k = 0 ∧ t' = [.int .i64 (d), junk, junk, junk, junk, junk, .slice none 0 0, junk, junk, junk, junk, .slice (some ⟨0, 0, none⟩) L.length c, .int .i64 (L.length), .int .i64 (0), junk, junk, junk, junk, junk, junk, junk, junk, junk, junk, junk, junk, junk, junk, junk, junk, junk, junk] ∧ m = [some ⟨flatI L, false, z0⟩]) ∨ (0 < k ∧ t' = [.int .i64 (d), junk, junk, junk, junk, junk, .slice (some ⟨1, 0, none⟩) ((frL d (L.take k)).length) INF, junk, junk, junk, junk, .slice (some ⟨0, 0, none⟩) L.length c, .int .i64 (L.length), .int .i64 (k), junk, junk, junk, junk, junk, junk, junk, junk, junk, junk, junk, junk, junk, junk, junk, junk, junk, junk] ∧ m = [some ⟨flatI L, false, z0⟩, some ⟨flatF (frL d (L.take k)), true, 2⟩]))) (L.length) (by exact ⟨0, rfl, Nat.zero_le _, .inl ⟨rfl, rfl, rfl⟩⟩) ?_); (rintro n t' m ⟨k, rfl, hk, (⟨rfl, rfl, rfl⟩ | ⟨hk0, rfl, rfl⟩)⟩))
      | refine AW.block ?_
      | (refine AW.region (id := 3) ?_; ((have hlk := hle k (by omega))))
      | (refine AW.region (id := 5) ?_; (rcases Nat.lt_or_eq_of_le hk with hkj | hkj); all_goals (try subst hkj))
      | refine AW.region ?_
      | (refine AW.conds rfl (fun hc => ?_) (fun hc => ?_) <;> (try simp only [decide_eq_true_eq, decide_eq_false_iff_not, Bool.not_true, Bool.not_false, Bool.not_eq_true', Bool.not_eq_false', Int.not_lt, Int.not_le, Classical.not_not, ne_eq] at hc) <;> first | (exfalso; first | contradiction | (omega); done) | skip))
    | ((with_reducible refine ex_on ?_); first | (refine ⟨L.length - (0 + 1), [.int .i64 (d), junk, junk, junk, junk, junk, .slice (some ⟨1, 0, none⟩) (1) INF, junk, junk, junk, junk, .slice (some ⟨0, 0, none⟩) L.length c, .int .i64 (L.length), .int .i64 (1), junk, junk, junk, junk, junk, junk, junk, junk, junk, junk, junk, junk, junk, junk, junk, junk, junk, junk], [some ⟨flatI L, false, z0⟩, some ⟨flatF [(frN (L.getD 0 0) d, frD (L.getD 0 0) d)], true, 2⟩], by omega, ?_, 1, rfl, by omega, .inr ⟨by omega, by rw [hsu 0 (by omega)]; rfl, by rw [hsu 0 (by omega)]; rfl⟩⟩; exact Wk.keep 1 [3] (Nat.le_of_eq hE) rfl rfl (by repeat (first | exact RenT.nil | refine RenT.junk ?_ | refine RenT.val (by first | rfl | with_reducible assumption | (simp only [rn3, rn2, rn1, kσ]; done)) (by first | rfl | assumption | (simp [ok3, ok2, ok1]; done)) ?_)) ⟨⟨_, rfl, rfl, rfl, .inl ⟨rfl, flatI_scal L⟩⟩, ⟨_, rfl, rfl, rfl, .inl ⟨rfl, rfl⟩⟩, trivial⟩) | (refine ⟨L.length - (k + 1), [.int .i64 (d), junk, junk, junk, junk, junk, .slice (some ⟨1, 0, none⟩) ((frL d (L.take k)).length + 1) INF, junk, junk, junk, junk, .slice (some ⟨0, 0, none⟩) L.length c, .int .i64 (L.length), .int .i64 (k + 1), junk, junk, junk, junk, junk, junk, junk, junk, junk, junk, junk, junk, junk, junk, junk, junk, junk, junk], [some ⟨flatI L, false, z0⟩, some ⟨flatF (frL d (L.take k) ++ [(frN (L.getD k 0) d, frD (L.getD k 0) d)]), true, 2⟩], by omega, ?_, k + 1, rfl, by omega, .inr ⟨by omega, by rw [hsu k (by omega), List.length_append]; rfl, by rw [hsu k (by omega)]⟩⟩; exact Wk.keep 1 [4] (Nat.le_of_eq hE) rfl rfl (by repeat (first | exact RenT.nil | refine RenT.junk ?_ | refine RenT.val (by first | rfl | with_reducible assumption | (simp only [rn3, rn2, rn1, kσ]; done)) (by first | rfl | assumption | (simp [ok3, ok2, ok1]; done)) ?_)) ⟨⟨_, rfl, rfl, rfl, .inl ⟨rfl, flatI_scal L⟩⟩, ⟨_, rfl, rfl, rfl, .inl ⟨flatF_snoc _ _, flatF_scal _⟩⟩, trivial⟩))
    | ((with_reducible refine FinA.on ?_); (refine FinA.keep 1 [] (.inl rfl) (.tmp (by conv => lhs; whnf) (.tmp (by conv => lhs; whnf) .nil)) ?_ rfl (Nat.le_of_eq hE) rfl rfl ⟨⟨_, rfl, rfl, rfl, .inl ⟨rfl, flatI_scal L⟩⟩, trivial⟩; rfl)))
theorem find_bad (d : Int) : ∀ L : List Int, (∀ k, k < L.length → frSm (L.getD k 0) d = true) ∨ ∃ j, j < L.length ∧ (∀ k, k < j → frSm (L.getD k 0) d = true) ∧ frSm (L.getD j 0) d = false
  | [] => .inl fun k hk => by simp at hk
  | a :: L => by
    cases ha : frSm a d with
    | false => exact .inr ⟨0, by simp, fun k hk => absurd hk (Nat.not_lt_zero _), ha⟩
    | true =>
      rcases find_bad d L with h | ⟨j, h1, h2, h3⟩
      · refine .inl fun k hk => ?_
        cases k with
        | zero => exact ha
        | succ k => exact h k (by simpa using hk)
      · refine .inr ⟨j + 1, by simpa using h1, fun k hk => ?_, h3⟩
        cases k with
        | zero => exact ha
        | succ k => exact h2 k (by omega)
def allSm (d : Int) (L : List Int) : Bool := L.all fun n => frSm n d
theorem fracs_ok {m : Mem} {b n c : Nat} {blk : Blk} (d : Int) (L : List Int) (hb : m.at b = some blk) (hc : blk.cells = flatI L) (hn : L.length = n) (h0 : d ≠ 0) (hd : -9000000000000000000 ≤ d ∧ d ≤ 9000000000000000000) (hB : IB L) (h1 : 1 ≤ L.length) (hl : L.length ≤ 1000) (hs : allSm d L = true) :
    ACalls Tryz.prog 33 [.int .i64 d, .slice (some ⟨b, 0, none⟩) n c] m (.tuple #[.slice (some ⟨m.length, 0, none⟩) n INF, .int .i64 0]) (m ++ [some ⟨flatF (frL d L), true, 2⟩]) := by
  subst hn
  refine ACalls.via1 hb hc (flatI_scal L) (flatF_scal _) (fun z => fracs_a d L c z h0 hd hB h1 hl fun k hk => ?_) rfl rfl (by simp [rn3, rn2, rn1, τn]) rfl
  refine List.all_eq_true.1 hs _ ?_
  rw [List.getD_eq_getElem?_getD, List.getElem?_eq_getElem hk]
  exact List.getElem_mem hk
theorem fracs_bad {m : Mem} {b n c : Nat} {blk : Blk} (d : Int) (L : List Int) (hb : m.at b = some blk) (hc : blk.cells = flatI L) (hn : L.length = n) (h0 : d ≠ 0) (hd : -9000000000000000000 ≤ d ∧ d ≤ 9000000000000000000) (hB : IB L) (hl : L.length ≤ 1000) (hs : allSm d L = false) :
    PCalls Tryz.prog 33 [.int .i64 d, .slice (some ⟨b, 0, none⟩) n c] m (.tuple #[.slice none 0 0, .int .i64 8]) := by
  subst hn
  rcases find_bad d L with h | ⟨j, h1, h2, h3⟩
  · rw [show allSm d L = true from List.all_eq_true.2 fun x hx => by
      obtain ⟨k, hk, rfl⟩ := List.getElem_of_mem hx
      have := h k hk
      rwa [List.getD_eq_getElem?_getD, List.getElem?_eq_getElem hk] at this] at hs
    cases hs
  · exact PCalls.via1 (fun z => ACalls.still (fracs_n d L c z h0 hd hB hl j h1 h2 h3) (ro1 _ rfl) rfl) hb hc (flatI_scal L) rfl rfl rfl rfl
end Go.Proofs.YtmghmmmfdbafoaaGreatDoor
