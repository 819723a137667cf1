/- Screens: trends, HeightTrend, Plane of both sides. -/
import Derived.Test.Ytnocdnhhlppahaa08sc
set_option linter.unusedSimpArgs false
set_option linter.unusedVariables false
namespace Go.Proofs.Ytnocdnhhlppahaa
open Go Go.RowKit Go.Ab Go.Sr
set_option maxRecDepth 100000
set_option maxHeartbeats 4000000
attribute [local irreducible] OQ OW AL AW AD AF SW

section
variable {l : List Scp}
theorem trend_e {m : Mem} {v : Value} (c : Int) (hS : SlP m v l) (hl : l.length ≤ 1000) (hc : csE l = c) (hc0 : c ≠ 0) : PCalls Try.prog 104 [v] m (.tuple #[.agg #[.int .i64 0, .int .i64 0, .int .i64 0], .int .i64 c]) := by
  have HC := fun (m : Mem) (v : Value) (hS : SlP m v l) => CheckScreen_q l hS hl
  rw [hc] at HC
  refine SlG.up (us := []) hS (flatP_scal l) rfl rfl fun v m0 h => ?_
  have hro := h.ro
  rcases h with ⟨rfl, rfl, h3⟩ | ⟨rfl, rfl, h3⟩ | ⟨z, rfl, rfl⟩
  all_goals
    refine PCalls.enter (t := [_, undef, undef, undef, undef, undef, undef, undef, undef, undef, undef, undef, undef, undef, undef, undef, undef, undef, undef, undef, undef, undef, undef, undef, undef, undef, undef, undef, undef, undef, undef, undef, undef, undef, undef, undef, undef, undef, undef, undef, undef]) Try.func104 rfl (hro) rfl fun E => ?_
    repeat' (first
      | with_reducible refine Then.n ?_
      | with_reducible refine Then.r ?_
      | with_reducible refine Then.x ?_
      | with_reducible refine InB.n ?_
      | with_reducible refine InB.r ?_
      | with_reducible refine InB.hit ?_
      | with_reducible refine InB.miss (by decide) ?_
      | ((with_reducible refine AL.on ?_); first
        | ((first | ((with_reducible refine AL.k_move ?_); first | (refine AL.q rfl (OQ.move (by conv => lhs; whnf)) ?_)) | ((with_reducible refine AL.k_assign ?_); first | (refine AL.q rfl (OQ.assign (by conv => lhs; whnf)) ?_)) | ((with_reducible refine AL.k_call ?_); first | refine AL.q rfl (OQ.lenS (xt := 108) (r := (none, 4, true)) rfl (by kernel_rfl)) ?_) | ((with_reducible refine AL.k_load ?_); first | refine AL.q rfl (OQ.loadN (ty := 117) (n := 4) rfl (by kernel_rfl) (by kernel_rfl) rfl) ?_ | (refine AL.q rfl (OQ.load1 (ty := 3) rfl (by kernel_rfl) (by conv => lhs; whnf)) ?_) | refine AL.q rfl (OQ.loadN (ty := 144) (n := 3) rfl (by kernel_rfl) (by kernel_rfl) rfl) ?_) | ((with_reducible refine AL.k_binOp ?_); first | refine AL.q rfl (OQ.neq rfl rfl) ?_ | refine AL.q rfl (OQ.lss rfl rfl) ?_ | refine AL.q rfl (OQ.addi rfl rfl (by omega)) ?_ | refine AL.q rfl (OQ.add rfl rfl) ?_ | refine AL.q rfl (OQ.eql rfl rfl) ?_) | ((with_reducible refine AL.k_fieldAddr ?_); first | refine AL.q rfl (OQ.fieldA (ty := 144) (i := 2) (n := 1) (off := 2) (g := false) rfl (by kernel_rfl) (by decide)) ?_) | ((with_reducible refine AL.k_indexAddr ?_); first | refine AL.q rfl (OQ.idxAddr (ty := 108) (z := 4) (g := true) rfl rfl (by kernel_rfl) (by omega) (by omega)) ?_)); (conv => (arg 5; try tactic => exact nrm)))
        | ((first | ((with_reducible refine AL.k_call ?_); first | refine AL.pcall (g := 61) rfl (by kernel_rfl) rfl ((by first | exact HC _ _ (.blk 0 _ rfl rfl rfl) | exact HC _ _ (.nil h3 rfl) | exact HC _ _ (.lost h3 rfl))) ?_) | ((with_reducible refine AL.k_build ?_); first | refine AL.q rfl (OQ.buildS (ty := 144) (zs := [.int .i64 0, .int .i64 0, .int .i64 0]) (pls := [(0, 1), (1, 1), (2, 1)]) (by kernel_rfl) rfl (by kernel_rfl) rfl rfl rfl) ?_)); (conv => (arg 5; try tactic => exact nrm)))
        | ((first | ((with_reducible refine AL.k_store ?_); first | (refine AL.w rfl (OW.store (ty := 144) (n := 3) rfl (by conv => lhs; whnf) rfl rfl (by kernel_rfl) rfl rfl (by decide) rfl (Nat.le_of_ble_eq_true rfl) (by intro r h; cases h)) ?_) | (refine AL.w rfl (OW.store (ty := 117) (n := 4) rfl (by conv => lhs; whnf) rfl rfl (by kernel_rfl) rfl rfl (by decide) rfl (Nat.le_of_ble_eq_true rfl) (by intro r h; cases h)) ?_)) | ((with_reducible refine AL.k_call ?_); first | refine AL.w rfl (by first | exact OW.appendNil (e := 3) (z := 1) (zs := [.int .i64 0]) (by' := 8) rfl rfl (by kernel_rfl) (by kernel_rfl) (by kernel_rfl) rfl (by kernel_rfl) (by decide) rfl (by decide) (by decide) | exact OW.appendL (e := 3) (z := 1) (zs := [.int .i64 0]) (by' := 8) rfl rfl (by kernel_rfl) (by kernel_rfl) (by kernel_rfl) rfl (by kernel_rfl) (by decide) rfl rfl rfl (by decide) (by omega) rfl rfl (by omega) (by omega)) ?_) | ((with_reducible refine AL.k_alloc ?_); first | refine AL.w rfl (OW.alloc (ty := 144) (z := [.int .i64 0, .int .i64 0, .int .i64 0]) (by kernel_rfl) rfl) ?_ | refine AL.w rfl (OW.alloc (ty := 117) (z := [.int .i64 0, .int .i64 0, .int .i64 0, .int .i64 0]) (by kernel_rfl) rfl) ?_)); (conv => (arg 5; try tactic => exact nrm)); (conv => (arg 6; try tactic => exact nrm)))
        | refine AL.nil ?_)
      | ((with_reducible refine AW.on ?_); first
        | refine AW.seq ?_
        | refine AW.skip ?_
        | refine AW.exit ?_
        | refine AW.ret ?_
        | refine AW.block ?_
        | (refine AW.drawF (id := 8) 9 #[0, 0, 2, 6, 15, 0, 0, 64, 192, 511, 1023, 2047] (by kernel_rfl) (by kernel_rfl) ?_; (conv => (arg 8; simp only [List.take_succ_cons, List.take_zero])))
        | (refine AW.region (id := 4) ?_; exfalso; omega; done)
        | refine AW.region ?_
        | (refine AW.conds rfl (fun hc => ?_) (fun hc => ?_) <;> (try simp only [decide_eq_true_eq, decide_eq_false_iff_not, Bool.not_true, Bool.not_false, Bool.not_eq_true', Bool.not_eq_false', Int.not_lt, Int.not_le, Classical.not_not, ne_eq] at hc) <;> first | (exfalso; first | contradiction | (omega); done) | skip))
      | ((with_reducible refine AF.on ?_); first
        | ((first | ((with_reducible refine AF.k_move ?_); first | (refine AF.q 0 (SW.q (OQ.move (by conv => lhs; whnf)) rfl) ?_)) | ((with_reducible refine AF.k_load ?_); first | (refine AF.ql rfl (SW.q (OQ.load1 (ty := 3) rfl (by kernel_rfl) (by conv => lhs; whnf)) rfl) ?_)) | ((with_reducible refine AF.k_fieldAddr ?_); first | refine AF.q 0 (SW.q (OQ.fieldA (ty := 117) (i := 2) (n := 1) (off := 2) (g := false) rfl (by kernel_rfl) (by decide)) rfl) ?_ | refine AF.q 0 (SW.q (OQ.fieldA (ty := 117) (i := 3) (n := 1) (off := 3) (g := false) rfl (by kernel_rfl) (by decide)) rfl) ?_)); (conv => (arg 9; try tactic => exact nrmF)); (conv => (arg 11; try simp only [List.nil_append, List.cons_append])))
        | ((first | ((with_reducible refine AF.k_call ?_); first | refine AF.al rfl (SW.w (by first | exact OW.appendNil (e := 3) (z := 1) (zs := [.int .i64 0]) (by' := 8) rfl rfl (by kernel_rfl) (by kernel_rfl) (by kernel_rfl) rfl (by kernel_rfl) (by decide) rfl (by decide) (by decide) | exact OW.appendL (e := 3) (z := 1) (zs := [.int .i64 0]) (by' := 8) rfl rfl (by kernel_rfl) (by kernel_rfl) (by kernel_rfl) rfl (by kernel_rfl) (by decide) rfl rfl rfl (by decide) (by omega) rfl rfl (by omega) (by omega)) rfl) rfl ?_ | refine AF.n1 2 (SW.w (by first | exact OW.appendNil (e := 3) (z := 1) (zs := [.int .i64 0]) (by' := 8) rfl rfl (by kernel_rfl) (by kernel_rfl) (by kernel_rfl) rfl (by kernel_rfl) (by decide) rfl (by decide) (by decide) | exact OW.appendL (e := 3) (z := 1) (zs := [.int .i64 0]) (by' := 8) rfl rfl (by kernel_rfl) (by kernel_rfl) (by kernel_rfl) rfl (by kernel_rfl) (by decide) rfl rfl rfl (by decide) (by omega) rfl rfl (by omega) (by omega)) rfl) rfl ?_) | ((with_reducible refine AF.k_buildSlice ?_); first | refine AF.n1 0 (SW.w (OW.buildSl (ty := 109) (zs := [.int .i64 0]) (n := 1) (g := false) (by kernel_rfl) (by kernel_rfl) rfl rfl rfl (by decide) (by decide) rfl rfl) rfl) rfl ?_)); (conv => (arg 9; try tactic => exact nrmF)); (conv => (arg 11; try simp only [List.nil_append, List.cons_append])); (conv => (arg 10; try tactic => exact nrmF)))
        | (refine AF.nil ?_ (by kernel_rfl); (conv => (arg 4; simp only [List.drop_succ_cons, List.drop_zero, List.drop_nil]))))
      | ((with_reducible refine FinP.on ?_); (first | refine FinP.ret (.cellN (n := 3) (by conv => lhs; whnf) (by kernel_rfl) (by kernel_rfl) rfl (.tmp (by conv => lhs; whnf) .nil)) ?_ rfl | refine FinP.end (.cellN (n := 3) (by conv => lhs; whnf) (by kernel_rfl) (by kernel_rfl) rfl (.tmp (by conv => lhs; whnf) .nil)) ?_ rfl); (try simp only [pack, List.drop, List.take]); all_goals (rfl)))
theorem trend_y (hR : CRight l) (z0 : Nat) : ACalls Try.prog 104 [.slice (some ⟨0, 0, none⟩) l.length INF] [some ⟨flatP l, false, z0⟩]
    (.tuple #[.agg #[.int .i64 (if lnD (prS l) = 0 then 0 else lnS (prS l)), .int .i64 (if lnD (prS l) = 0 then 0 else lnC (prS l)), .int .i64 (lnD (prS l))], .int .i64 (if lnD (prS l) = 0 then 30 else 0)]) [some ⟨flatP l, false, z0⟩] := by
  have hn1 := hR.n1
  have hn2 := hR.n24
  have HC := fun (m : Mem) (v : Value) (hS : SlP m v l) => CheckScreen_q l hS (by omega)
  rw [right_csE hR] at HC
  have HL := fun (m : Mem) (a b : Nat) (h0 : m.at a = some ⟨flatI ((prS l).map (·.1)), true, 1⟩) (h1 : m.at b = some ⟨flatI ((prS l).map (·.2)), true, 1⟩) => lineOf_q (prS l) (prS_pb hR) (by rw [prS_len]; omega) (prS_len l) h0 h1
  rw [← hA_all, ← pA_all] at HL
  generalize lnS (prS l) = S_ at *
  generalize lnC (prS l) = C_ at *
  generalize lnD (prS l) = D_ at *
  have hle1 := hA_len l
  have hle2 := pA_len l
  have hs1 := hA_succ l
  have hs2 := pA_succ l
  generalize hA l = A at *
  generalize pA l = V at *
  have hA0 : A 0 = [] := List.eq_nil_of_length_eq_zero (hle1 0 (by omega))
  have hV0 : V 0 = [] := List.eq_nil_of_length_eq_zero (hle2 0 (by omega))
  have hld : ∀ {m : Mem} {b : Nat} {blk : Blk} (hb : m.at b = some blk) (hc : blk.cells = flatP l) (k : Nat) (hk : k < l.length), m.ld b (k * 4) 4 = some [.int .i64 (sp_ l k).x, .int .i64 (sp_ l k).y, .int .i64 (sp_ l k).h, .int .i64 (sp_ l k).p] := fun hb hc k hk => flatSp_ld hb hc k hk
  have hld0 : ∀ {m : Mem} {b : Nat} {blk : Blk} (hb : m.at b = some blk) (hc : blk.cells = flatP l), m.ld b 0 4 = some [.int .i64 (sp_ l 0).x, .int .i64 (sp_ l 0).y, .int .i64 (sp_ l 0).h, .int .i64 (sp_ l 0).p] := fun hb hc => hld hb hc 0 hn1
  refine ACalls.enter (t := [.slice (some ⟨0, 0, none⟩) (l.length) INF, undef, undef, undef, undef, undef, undef, undef, undef, undef, undef, undef, undef, undef, undef, undef, undef, undef, undef, undef, undef, undef, undef, undef, undef, undef, undef, undef, undef, undef, undef, undef, undef, undef, undef, undef, undef, undef, undef, undef, undef]) Try.func104 rfl rfl fun E hE => ?_
  repeat' (first
    | with_reducible refine Then.n ?_
    | with_reducible refine Then.r ?_
    | with_reducible refine Then.x ?_
    | with_reducible refine InB.n ?_
    | with_reducible refine InB.r ?_
    | with_reducible refine InB.hit ?_
    | with_reducible refine InB.miss (by decide) ?_
    | ((with_reducible refine AL.on ?_); first
      | ((first | ((with_reducible refine AL.k_move ?_); first | (refine AL.q rfl (OQ.move (by conv => lhs; whnf)) ?_)) | ((with_reducible refine AL.k_assign ?_); first | (refine AL.q rfl (OQ.assign (by conv => lhs; whnf)) ?_)) | ((with_reducible refine AL.k_call ?_); first | refine AL.q rfl (OQ.lenS (xt := 108) (r := (none, 4, true)) rfl (by kernel_rfl)) ?_) | ((with_reducible refine AL.k_load ?_); first | refine AL.q rfl (OQ.loadN (ty := 117) (n := 4) rfl (by kernel_rfl) (by kernel_rfl) (by first | (first | exact hld rfl rfl _ (by omega) | exact hld0 rfl rfl) | rfl)) ?_ | (refine AL.q rfl (OQ.load1 (ty := 3) rfl (by kernel_rfl) (by first | (first | exact hld rfl rfl _ (by omega) | exact hld0 rfl rfl) | (conv => lhs; whnf))) ?_) | refine AL.q rfl (OQ.loadN (ty := 144) (n := 3) rfl (by kernel_rfl) (by kernel_rfl) (by first | (first | exact hld rfl rfl _ (by omega) | exact hld0 rfl rfl) | rfl)) ?_) | ((with_reducible refine AL.k_binOp ?_); first | refine AL.q rfl (OQ.neq rfl rfl) ?_ | refine AL.q rfl (OQ.lss rfl rfl) ?_ | refine AL.q rfl (OQ.addi rfl rfl (by omega)) ?_ | refine AL.q rfl (OQ.add rfl rfl) ?_ | refine AL.q rfl (OQ.eql rfl rfl) ?_)); (conv => (arg 5; try tactic => exact nrm)))
      | ((first | ((with_reducible refine AL.k_call ?_); first | refine AL.pcall (g := 61) rfl (by kernel_rfl) rfl (HC _ _ (.blk 0 _ rfl rfl rfl)) ?_ | refine AL.pcall (g := 73) rfl (by kernel_rfl) rfl (HL _ _ _ rfl rfl) ?_) | ((with_reducible refine AL.k_fieldAddr ?_); first | refine AL.q rfl (OQ.fieldA (ty := 144) (i := 2) (n := 1) (off := 2) (g := false) rfl (by kernel_rfl) (by decide)) ?_) | ((with_reducible refine AL.k_build ?_); first | refine AL.q rfl (OQ.buildS (ty := 144) (zs := [.int .i64 0, .int .i64 0, .int .i64 0]) (pls := [(0, 1), (1, 1), (2, 1)]) (by kernel_rfl) rfl (by kernel_rfl) rfl rfl rfl) ?_) | ((with_reducible refine AL.k_indexAddr ?_); first | refine AL.q rfl (OQ.idxAddr (ty := 108) (z := 4) (g := true) rfl rfl (by kernel_rfl) (by omega) (by omega)) ?_)); (conv => (arg 5; try tactic => exact nrm)))
      | ((first | ((with_reducible refine AL.k_store ?_); first | (refine AL.w rfl (OW.store (ty := 144) (n := 3) rfl (by conv => lhs; whnf) rfl rfl (by kernel_rfl) rfl rfl (by decide) rfl (Nat.le_of_ble_eq_true rfl) (by intro r h; cases h)) ?_) | (refine AL.w rfl (OW.store (ty := 117) (n := 4) rfl (by conv => lhs; whnf) rfl rfl (by kernel_rfl) rfl rfl (by decide) rfl (Nat.le_of_ble_eq_true rfl) (by intro r h; cases h)) ?_)) | ((with_reducible refine AL.k_call ?_); first | refine AL.w rfl (by first | exact OW.appendNil (e := 3) (z := 1) (zs := [.int .i64 0]) (by' := 8) rfl rfl (by kernel_rfl) (by kernel_rfl) (by kernel_rfl) rfl (by kernel_rfl) (by decide) rfl (by decide) (by decide) | exact OW.appendL (e := 3) (z := 1) (zs := [.int .i64 0]) (by' := 8) rfl rfl (by kernel_rfl) (by kernel_rfl) (by kernel_rfl) rfl (by kernel_rfl) (by decide) rfl rfl rfl (by decide) (by exact flatI_len _) rfl rfl (by omega) (by omega)) ?_) | ((with_reducible refine AL.k_alloc ?_); first | refine AL.w rfl (OW.alloc (ty := 144) (z := [.int .i64 0, .int .i64 0, .int .i64 0]) (by kernel_rfl) rfl) ?_ | refine AL.w rfl (OW.alloc (ty := 117) (z := [.int .i64 0, .int .i64 0, .int .i64 0, .int .i64 0]) (by kernel_rfl) rfl) ?_)); (conv => (arg 5; try tactic => exact nrm)); (conv => (arg 6; try tactic => exact nrm)))
      | refine AL.nil ?_)
    | ((with_reducible refine AW.on ?_); first
      | refine AW.seq ?_
      | refine AW.skip ?_
      | refine AW.exit ?_
      | refine AW.ret ?_
      | ((refine AW.block (id := 0) ?_); (refine AW.wk (Wk.forget [false, false, true, false, false, true, true, false, false, false, false, false, false, false, false, false, true, true, true, false, false, false, false, false, false, false, false, false, false, false, false, false, false, false, false, false, false, false, false, false, false] rfl) ?_); (conv => (arg 4; simp only [fgt, if_true, if_false, Bool.false_eq_true])); (refine AW.loop (fun n t' m => ∃ k : Nat, n = l.length - k ∧ k ≤ l.length ∧ ((k = 0 ∧ t' = [junk, junk, .pointer (some ⟨1, 0, none⟩), junk, junk, .slice none 0 0, .slice none 0 0, junk, junk, junk, junk, junk, junk, junk, junk, junk, .slice (some ⟨0, 0, none⟩) (l.length) INF, .int .i64 (l.length), .int .i64 (0), junk, junk, junk, junk, junk, junk, junk, junk, junk, junk, junk, junk, junk, junk, junk, junk, junk, junk, junk, junk, junk, junk] ∧ m = [some ⟨flatP l, false, z0⟩, some ⟨[.int .i64 (0), .int .i64 (0), .int .i64 (0)], true, 0⟩]) ∨ (0 < k ∧ t' = [junk, junk, .pointer (some ⟨1, 0, none⟩), junk, junk, .slice (some ⟨2, 0, none⟩) ((A k).length) INF, .slice (some ⟨3, 0, none⟩) ((V k).length) INF, junk, junk, junk, junk, junk, junk, junk, junk, junk, .slice (some ⟨0, 0, none⟩) (l.length) INF, .int .i64 (l.length), .int .i64 (k), junk, junk, junk, junk, junk, junk, junk, junk, junk, junk, junk, junk, junk, junk, junk, junk, junk, junk, junk, junk, junk, junk] ∧ m = [some ⟨flatP l, false, z0⟩, some ⟨[.int .i64 (0), .int .i64 (0), .int .i64 (0)], true, 0⟩, some ⟨flatI (A k), true, 1⟩, some ⟨flatI (V k), true, 1⟩]))) (l.length) (by exact ⟨0, rfl, Nat.zero_le _, .inl ⟨rfl, rfl, rfl⟩⟩) ?_); (rintro n t' m ⟨k, rfl, hk, (⟨rfl, rfl, rfl⟩ | ⟨hk0, rfl, rfl⟩)⟩))
      | refine AW.block ?_
      | (refine AW.drawF (id := 8) 9 #[0, 0, 2, 6, 15, 0, 0, 64, 192, 511, 1023, 2047] (by kernel_rfl) (by kernel_rfl) ?_; (conv => (arg 8; simp only [List.take_succ_cons, List.take_zero])))
      | (refine AW.region (id := 3) ?_; exfalso; omega; done)
      | (refine AW.region (id := 6) ?_; ((have hl1 := hle1 k hk; have hl2 := hle2 k hk)))
      | (refine AW.region (id := 10) ?_; ((obtain rfl : k = l.length := (by omega); rw [hl1, hl2])))
      | refine AW.region ?_
      | (refine AW.conds rfl (fun hc => ?_) (fun hc => ?_) <;> (try simp only [decide_eq_true_eq, decide_eq_false_iff_not, Bool.not_true, Bool.not_false, Bool.not_eq_true', Bool.not_eq_false', Int.not_lt, Int.not_le, Classical.not_not, ne_eq] at hc) <;> first | (exfalso; first | contradiction | (omega); done) | skip))
    | ((with_reducible refine AF.on ?_); first
      | ((first | ((with_reducible refine AF.k_move ?_); first | (refine AF.q 0 (SW.q (OQ.move (by conv => lhs; whnf)) rfl) ?_)) | ((with_reducible refine AF.k_load ?_); first | (refine AF.ql rfl (SW.q (OQ.load1 (ty := 3) rfl (by kernel_rfl) (by first | (first | exact hld rfl rfl _ (by omega) | exact hld0 rfl rfl) | (conv => lhs; whnf))) rfl) ?_)) | ((with_reducible refine AF.k_fieldAddr ?_); first | refine AF.q 0 (SW.q (OQ.fieldA (ty := 117) (i := 2) (n := 1) (off := 2) (g := false) rfl (by kernel_rfl) (by decide)) rfl) ?_ | refine AF.q 0 (SW.q (OQ.fieldA (ty := 117) (i := 3) (n := 1) (off := 3) (g := false) rfl (by kernel_rfl) (by decide)) rfl) ?_)); (conv => (arg 9; try tactic => exact nrmF)); (conv => (arg 11; try simp only [List.nil_append, List.cons_append])))
      | ((first | ((with_reducible refine AF.k_call ?_); first | refine AF.al rfl (SW.w (by first | exact OW.appendNil (e := 3) (z := 1) (zs := [.int .i64 0]) (by' := 8) rfl rfl (by kernel_rfl) (by kernel_rfl) (by kernel_rfl) rfl (by kernel_rfl) (by decide) rfl (by decide) (by decide) | exact OW.appendL (e := 3) (z := 1) (zs := [.int .i64 0]) (by' := 8) rfl rfl (by kernel_rfl) (by kernel_rfl) (by kernel_rfl) rfl (by kernel_rfl) (by decide) rfl rfl rfl (by decide) (by exact flatI_len _) rfl rfl (by omega) (by omega)) rfl) rfl ?_ | refine AF.n1 2 (SW.w (by first | exact OW.appendNil (e := 3) (z := 1) (zs := [.int .i64 0]) (by' := 8) rfl rfl (by kernel_rfl) (by kernel_rfl) (by kernel_rfl) rfl (by kernel_rfl) (by decide) rfl (by decide) (by decide) | exact OW.appendL (e := 3) (z := 1) (zs := [.int .i64 0]) (by' := 8) rfl rfl (by kernel_rfl) (by kernel_rfl) (by kernel_rfl) rfl (by kernel_rfl) (by decide) rfl rfl rfl (by decide) (by exact flatI_len _) rfl rfl (by omega) (by omega)) rfl) rfl ?_) | ((with_reducible refine AF.k_buildSlice ?_); first | refine AF.n1 0 (SW.w (OW.buildSl (ty := 109) (zs := [.int .i64 0]) (n := 1) (g := false) (by kernel_rfl) (by kernel_rfl) rfl rfl rfl (by decide) (by decide) rfl rfl) rfl) rfl ?_)); (conv => (arg 9; try tactic => exact nrmF)); (conv => (arg 11; try simp only [List.nil_append, List.cons_append])); (conv => (arg 10; try tactic => exact nrmF)))
      | (refine AF.nil ?_ (by kernel_rfl); (conv => (arg 4; simp only [List.drop_succ_cons, List.drop_zero, List.drop_nil]))))
    | ((with_reducible refine ex_on ?_); first | (refine ⟨l.length - (0 + 1), _, _, by omega, ?_, 1, rfl, by omega, .inr ⟨by omega, rfl, rfl⟩⟩; rw [hs1 0 (by omega), hs2 0 (by omega), hA0, hV0]; exact Wk.keep 2 [4, 6] (by rw [hE]; exact (by decide : 1 ≤ 2)) rfl rfl (by repeat (first | exact RenT.nil | refine RenT.junk ?_ | refine RenT.val (by first | rfl | with_reducible assumption | (simp only [rn3, rn2, rn1, kσ]; done)) (by first | rfl | assumption | (simp [ok3, ok2, ok1]; done)) ?_)) ⟨⟨_, rfl, rfl, rfl, .inl ⟨rfl, flatP_scal l⟩⟩, ⟨_, rfl, rfl, rfl, .inl ⟨rfl, rfl⟩⟩, ⟨_, rfl, rfl, rfl, .inl ⟨rfl, rfl⟩⟩, ⟨_, rfl, rfl, rfl, .inl ⟨rfl, rfl⟩⟩, trivial⟩) | (refine ⟨l.length - (k + 1), _, _, by omega, ?_, k + 1, rfl, by omega, .inr ⟨by omega, rfl, rfl⟩⟩; rw [hs1 k (by omega), hs2 k (by omega), List.length_append, List.length_append]; exact Wk.keep 2 [6, 8] (by rw [hE]; exact (by decide : 1 ≤ 2)) rfl rfl (by repeat (first | exact RenT.nil | refine RenT.junk ?_ | refine RenT.val (by first | rfl | with_reducible assumption | (simp only [rn3, rn2, rn1, kσ]; done)) (by first | rfl | assumption | (simp [ok3, ok2, ok1]; done)) ?_)) ⟨⟨_, rfl, rfl, rfl, .inl ⟨rfl, flatP_scal l⟩⟩, ⟨_, rfl, rfl, rfl, .inl ⟨rfl, rfl⟩⟩, ⟨_, rfl, rfl, rfl, .inl ⟨flatI_snoc _ _, flatI_scal _⟩⟩, ⟨_, rfl, rfl, rfl, .inl ⟨flatI_snoc _ _, flatI_scal _⟩⟩, trivial⟩))
    | ((with_reducible refine FinA.on ?_); (first | (have h0 := ‹D_ = 0›; subst h0; rw [if_pos rfl, if_pos rfl, if_pos rfl]) | rw [if_neg ‹¬ D_ = 0›, if_neg ‹¬ D_ = 0›, if_neg ‹¬ D_ = 0›]); (refine FinA.keep 1 [] (.inl rfl) (.cellN (n := 3) (by conv => lhs; whnf) (by kernel_rfl) (by kernel_rfl) rfl (.tmp (by conv => lhs; whnf) .nil)) ?_ rfl (Nat.le_of_eq hE) rfl rfl ⟨⟨_, rfl, rfl, rfl, .inl ⟨rfl, flatP_scal l⟩⟩, trivial⟩; rfl)))
theorem rtrend_y (hR : CRight l) (z0 : Nat) : PCalls Try.prog 106 [.slice (some ⟨0, 0, none⟩) l.length INF] [some ⟨flatP l, false, z0⟩]
    (.tuple #[.int .i64 (lnS (prS l)), .int .i64 (lnC (prS l)), .int .i64 (lnD (prS l))]) := by
  have hn1 := hR.n1
  have hn2 := hR.n24
  have HL := fun (m : Mem) (a b : Nat) (k0 k1 : Blk) (h0 : m.at a = some k0) (h1 : m.at b = some k1) (hc0 : k0.cells = flatI ((prS l).map (·.1))) (hc1 : k1.cells = flatI ((prS l).map (·.2))) => line_q (prS l) (prS_pb hR) (by rw [prS_len]; omega) (prS_len l) h0 h1 hc0 hc1
  rw [← hA_all, ← pA_all] at HL
  generalize lnS (prS l) = S_ at *
  generalize lnC (prS l) = C_ at *
  generalize lnD (prS l) = D_ at *
  have hle1 := hA_len l
  have hle2 := pA_len l
  have hs1 := hA_succ l
  have hs2 := pA_succ l
  generalize hA l = A at *
  generalize pA l = V at *
  have hA0 : A 0 = [] := List.eq_nil_of_length_eq_zero (hle1 0 (by omega))
  have hV0 : V 0 = [] := List.eq_nil_of_length_eq_zero (hle2 0 (by omega))
  have e2 : ∀ k : Nat, k < l.length → (flatP l)[k * 4 + 2]? = some (.int .i64 (sp_ l k).h) := fun k hk => flatSp_get l k 2 (by decide) hk
  have e3 : ∀ k : Nat, k < l.length → (flatP l)[k * 4 + 3]? = some (.int .i64 (sp_ l k).p) := fun k hk => flatSp_get l k 3 (by decide) hk
  have e20 : (flatP l)[2]? = some (.int .i64 (sp_ l 0).h) := flatSp_get l 0 2 (by decide) hn1
  have e30 : (flatP l)[3]? = some (.int .i64 (sp_ l 0).p) := flatSp_get l 0 3 (by decide) hn1
  refine PCalls.enterJ (t := [.slice (some ⟨0, 0, none⟩) (l.length) INF, undef, undef, undef, undef, undef, undef, undef, undef, undef, undef, undef, undef, undef, undef, undef, undef, undef, undef, undef, undef, undef, undef, undef, undef, undef, undef, undef, undef, undef, undef, undef, undef, undef, undef, undef]) Try.func106 rfl (ro1 _ rfl) rfl fun E hE => ?_
  repeat' (first
    | with_reducible refine Then.n ?_
    | with_reducible refine Then.r ?_
    | with_reducible refine Then.x ?_
    | with_reducible refine InB.n ?_
    | with_reducible refine InB.r ?_
    | with_reducible refine InB.hit ?_
    | with_reducible refine InB.miss (by decide) ?_
    | ((with_reducible refine AL.on ?_); first
      | ((first | ((with_reducible refine AL.k_assign ?_); first | (refine AL.q rfl (OQ.assign (by conv => lhs; whnf)) ?_)) | ((with_reducible refine AL.k_move ?_); first | (refine AL.q rfl (OQ.move (by conv => lhs; whnf)) ?_)) | ((with_reducible refine AL.k_call ?_); first | refine AL.q rfl (OQ.lenS (xt := 108) (r := (none, 4, true)) rfl (by kernel_rfl)) ?_) | ((with_reducible refine AL.k_extract ?_); first | refine AL.q rfl (OQ.extract rfl rfl) ?_) | ((with_reducible refine AL.k_binOp ?_); first | refine AL.q rfl (OQ.lss rfl rfl) ?_ | refine AL.q rfl (OQ.addi rfl rfl (by omega)) ?_ | refine AL.q rfl (OQ.add rfl rfl) ?_)); (conv => (arg 5; try tactic => exact nrm)))
      | ((first | first | refine AL.pcall (g := 82) rfl (by kernel_rfl) rfl (HL _ _ _ _ _ rfl rfl rfl rfl) ?_); (conv => (arg 5; try tactic => exact nrm)))
      | ((first | first | refine AL.w rfl (by first | exact OW.appendNil (e := 3) (z := 1) (zs := [.int .i64 0]) (by' := 8) rfl rfl (by kernel_rfl) (by kernel_rfl) (by kernel_rfl) rfl (by kernel_rfl) (by decide) rfl (by decide) (by decide) | exact OW.appendL (e := 3) (z := 1) (zs := [.int .i64 0]) (by' := 8) rfl rfl (by kernel_rfl) (by kernel_rfl) (by kernel_rfl) rfl (by kernel_rfl) (by decide) rfl rfl rfl (by decide) (by exact flatI_len _) rfl rfl (by omega) (by omega)) ?_); (conv => (arg 5; try tactic => exact nrm)); (conv => (arg 6; try tactic => exact nrm)))
      | refine AL.nil ?_)
    | ((with_reducible refine AW.on ?_); first
      | refine AW.seq ?_
      | refine AW.skip ?_
      | refine AW.exit ?_
      | refine AW.ret ?_
      | ((refine AW.block (id := 0) ?_); (refine AW.wk (Wk.forget [true, false, false, false, false, true, true, true, false, false, false, false, false, false, false, false, false, false, false, false, false, false, false, false, false, false, false, false, false, false, false, false, false, false, false, false] rfl) ?_); (conv => (arg 4; simp only [fgt, if_true, if_false, Bool.false_eq_true])); (refine AW.loop (fun n t' m => ∃ k : Nat, n = l.length - k ∧ k ≤ l.length ∧ ((k = 0 ∧ t' = [.slice (some ⟨0, 0, none⟩) (l.length) INF, junk, junk, junk, junk, .slice none 0 0, .slice none 0 0, .int .i64 (0), junk, junk, junk, junk, junk, junk, junk, junk, junk, junk, junk, junk, junk, junk, junk, junk, junk, junk, junk, junk, junk, junk, junk, junk, junk, junk, junk, junk] ∧ m = [some ⟨flatP l, false, z0⟩]) ∨ (0 < k ∧ t' = [.slice (some ⟨0, 0, none⟩) (l.length) INF, junk, junk, junk, junk, .slice (some ⟨1, 0, none⟩) ((A k).length) INF, .slice (some ⟨2, 0, none⟩) ((V k).length) INF, .int .i64 (k), junk, junk, junk, junk, junk, junk, junk, junk, junk, junk, junk, junk, junk, junk, junk, junk, junk, junk, junk, junk, junk, junk, junk, junk, junk, junk, junk, junk] ∧ m = [some ⟨flatP l, false, z0⟩, some ⟨flatI (A k), true, 1⟩, some ⟨flatI (V k), true, 1⟩]))) (l.length) (by exact ⟨0, rfl, Nat.zero_le _, .inl ⟨rfl, rfl, rfl⟩⟩) ?_); (rintro n t' m ⟨k, rfl, hk, (⟨rfl, rfl, rfl⟩ | ⟨hk0, rfl, rfl⟩)⟩))
      | refine AW.block ?_
      | (refine AW.drawF (id := 5) 15 #[0, 0, 0, 6, 14, 30, 62, 127, 0, 0, 0, 1536, 3584, 7680, 15872, 32767, 65535, 131071] (by kernel_rfl) (by kernel_rfl) ?_; (conv => (arg 8; simp only [List.take_succ_cons, List.take_zero])))
      | (refine AW.region (id := 3) ?_; ((have hl1 := hle1 k hk; have hl2 := hle2 k hk)))
      | (refine AW.region (id := 6) ?_; ((obtain rfl : k = l.length := (by omega); rw [hl1, hl2])))
      | refine AW.region ?_
      | (refine AW.conds rfl (fun hc => ?_) (fun hc => ?_) <;> (try simp only [decide_eq_true_eq, decide_eq_false_iff_not, Bool.not_true, Bool.not_false, Bool.not_eq_true', Bool.not_eq_false', Int.not_lt, Int.not_le, Classical.not_not, ne_eq] at hc) <;> first | (exfalso; first | contradiction | (omega); done) | skip))
    | ((with_reducible refine AF.on ?_); first
      | ((first | ((with_reducible refine AF.k_move ?_); first | (refine AF.q 0 (SW.q (OQ.move (by conv => lhs; whnf)) rfl) ?_)) | ((with_reducible refine AF.k_indexAddr ?_); first | refine AF.q 0 (SW.q (OQ.idxAddr (ty := 108) (z := 4) (g := true) rfl rfl (by kernel_rfl) (by omega) (by omega)) rfl) ?_) | ((with_reducible refine AF.k_fieldAddr ?_); first | refine AF.q 0 (SW.q (OQ.fieldA (ty := 117) (i := 2) (n := 1) (off := 2) (g := false) rfl (by kernel_rfl) (by decide)) rfl) ?_ | refine AF.q 0 (SW.q (OQ.fieldA (ty := 117) (i := 3) (n := 1) (off := 3) (g := false) rfl (by kernel_rfl) (by decide)) rfl) ?_) | ((with_reducible refine AF.k_load ?_); first | (refine AF.ql rfl (SW.q (OQ.load1 (ty := 3) rfl (by kernel_rfl) (by first | (first | exact e2 _ (by omega) | exact e3 _ (by omega) | exact e20 | exact e30) | (conv => lhs; whnf))) rfl) ?_))); (conv => (arg 9; try tactic => exact nrmF)); (conv => (arg 11; try simp only [List.nil_append, List.cons_append])))
      | ((first | ((with_reducible refine AF.k_call ?_); first | refine AF.al rfl (SW.w (by first | exact OW.appendNil (e := 3) (z := 1) (zs := [.int .i64 0]) (by' := 8) rfl rfl (by kernel_rfl) (by kernel_rfl) (by kernel_rfl) rfl (by kernel_rfl) (by decide) rfl (by decide) (by decide) | exact OW.appendL (e := 3) (z := 1) (zs := [.int .i64 0]) (by' := 8) rfl rfl (by kernel_rfl) (by kernel_rfl) (by kernel_rfl) rfl (by kernel_rfl) (by decide) rfl rfl rfl (by decide) (by exact flatI_len _) rfl rfl (by omega) (by omega)) rfl) rfl ?_ | refine AF.n1 2 (SW.w (by first | exact OW.appendNil (e := 3) (z := 1) (zs := [.int .i64 0]) (by' := 8) rfl rfl (by kernel_rfl) (by kernel_rfl) (by kernel_rfl) rfl (by kernel_rfl) (by decide) rfl (by decide) (by decide) | exact OW.appendL (e := 3) (z := 1) (zs := [.int .i64 0]) (by' := 8) rfl rfl (by kernel_rfl) (by kernel_rfl) (by kernel_rfl) rfl (by kernel_rfl) (by decide) rfl rfl rfl (by decide) (by exact flatI_len _) rfl rfl (by omega) (by omega)) rfl) rfl ?_) | ((with_reducible refine AF.k_buildSlice ?_); first | refine AF.n1 0 (SW.w (OW.buildSl (ty := 109) (zs := [.int .i64 0]) (n := 1) (g := false) (by kernel_rfl) (by kernel_rfl) rfl rfl rfl (by decide) (by decide) rfl rfl) rfl) rfl ?_)); (conv => (arg 9; try tactic => exact nrmF)); (conv => (arg 11; try simp only [List.nil_append, List.cons_append])); (conv => (arg 10; try tactic => exact nrmF)))
      | (refine AF.nil ?_ (by kernel_rfl); (conv => (arg 4; simp only [List.drop_succ_cons, List.drop_zero, List.drop_nil]))))
    | ((with_reducible refine ex_on ?_); first | (refine ⟨l.length - (0 + 1), _, _, by omega, ?_, 1, rfl, by omega, .inr ⟨by omega, rfl, rfl⟩⟩; rw [hs1 0 (by omega), hs2 0 (by omega), hA0, hV0]; exact Wk.keep 1 [2, 4] (by rw [hE]; exact (by decide : 1 ≤ 1)) rfl rfl (by repeat (first | exact RenT.nil | refine RenT.junk ?_ | refine RenT.val (by first | rfl | with_reducible assumption | (simp only [rn3, rn2, rn1, kσ]; done)) (by first | rfl | assumption | (simp [ok3, ok2, ok1]; done)) ?_)) ⟨⟨_, rfl, rfl, rfl, .inl ⟨rfl, flatP_scal l⟩⟩, ⟨_, rfl, rfl, rfl, .inl ⟨rfl, rfl⟩⟩, ⟨_, rfl, rfl, rfl, .inl ⟨rfl, rfl⟩⟩, trivial⟩) | (refine ⟨l.length - (k + 1), _, _, by omega, ?_, k + 1, rfl, by omega, .inr ⟨by omega, rfl, rfl⟩⟩; rw [hs1 k (by omega), hs2 k (by omega), List.length_append, List.length_append]; exact Wk.keep 1 [4, 6] (by rw [hE]; exact (by decide : 1 ≤ 1)) rfl rfl (by repeat (first | exact RenT.nil | refine RenT.junk ?_ | refine RenT.val (by first | rfl | with_reducible assumption | (simp only [rn3, rn2, rn1, kσ]; done)) (by first | rfl | assumption | (simp [ok3, ok2, ok1]; done)) ?_)) ⟨⟨_, rfl, rfl, rfl, .inl ⟨rfl, flatP_scal l⟩⟩, ⟨_, rfl, rfl, rfl, .inl ⟨flatI_snoc _ _, flatI_scal _⟩⟩, ⟨_, rfl, rfl, rfl, .inl ⟨flatI_snoc _ _, flatI_scal _⟩⟩, trivial⟩))
    | ((with_reducible refine FinJ.on ?_); first | exact FinJ.ret (.tmp (by conv => lhs; whnf) (.tmp (by conv => lhs; whnf) (.tmp (by conv => lhs; whnf) .nil))) (jle_flat rfl) | exact FinJ.end (.tmp (by conv => lhs; whnf) (.tmp (by conv => lhs; whnf) (.tmp (by conv => lhs; whnf) .nil))) (jle_flat rfl)))
/-- Screens of one kind, in any memory. -/
theorem trend_q {m : Mem} {v : Value} (hS : SlP m v l) (hR : CRight l) : PCalls Try.prog 104 [v] m (.tuple #[.agg #[.int .i64 (if lnD (prS l) = 0 then 0 else lnS (prS l)), .int .i64 (if lnD (prS l) = 0 then 0 else lnC (prS l)), .int .i64 (lnD (prS l))], .int .i64 (if lnD (prS l) = 0 then 30 else 0)]) := by
  refine SlG.up (us := []) hS (flatP_scal l) rfl rfl fun v m0 h => ?_
  have hn1 := hR.n1
  rcases h with ⟨rfl, rfl, h3⟩ | ⟨rfl, rfl, h3⟩ | ⟨z, rfl, rfl⟩
  · omega
  · omega
  · exact ACalls.still (trend_y hR z) (ro1 _ rfl) rfl
theorem rtrend_q {m : Mem} {v : Value} (hS : SlP m v l) (hR : CRight l) : PCalls Try.prog 106 [v] m (.tuple #[.int .i64 (lnS (prS l)), .int .i64 (lnC (prS l)), .int .i64 (lnD (prS l))]) := by
  refine SlG.up (us := []) hS (flatP_scal l) rfl rfl fun v m0 h => ?_
  have hn1 := hR.n1
  rcases h with ⟨rfl, rfl, h3⟩ | ⟨rfl, rfl, h3⟩ | ⟨z, rfl, rfl⟩
  · omega
  · omega
  · exact rtrend_y hR z
theorem HeightTrend_e {m : Mem} {v : Value} (c : Int) (hS : SlP m v l) (hl : l.length ≤ 1000) (hc : csE l = c) (hc0 : c ≠ 0) : PCalls Try.prog 59 [v] m (.tuple #[z4, .int .i64 c]) := by
  have HC := fun (m : Mem) (v : Value) (hS : SlP m v l) => trend_e c hS hl hc hc0
  refine SlG.up (us := []) hS (flatP_scal l) rfl rfl fun v m0 h => ?_
  have hro := h.ro
  rcases h with ⟨rfl, rfl, h3⟩ | ⟨rfl, rfl, h3⟩ | ⟨z, rfl, rfl⟩
  all_goals
    refine PCalls.enter (t := [_, undef, undef, undef, undef, undef, undef, undef, undef, undef, undef, undef, undef, undef, undef, undef, undef, undef, undef]) Try.func59 rfl (hro) rfl fun E => ?_
    repeat' (first
      | with_reducible refine Then.n ?_
      | with_reducible refine Then.r ?_
      | with_reducible refine Then.x ?_
      | with_reducible refine InB.n ?_
      | with_reducible refine InB.r ?_
      | with_reducible refine InB.hit ?_
      | with_reducible refine InB.miss (by decide) ?_
      | ((with_reducible refine AL.on ?_); first
        | ((first | ((with_reducible refine AL.k_assign ?_); first | (refine AL.q rfl (OQ.assign (by conv => lhs; whnf)) ?_)) | ((with_reducible refine AL.k_move ?_); first | (refine AL.q rfl (OQ.move (by conv => lhs; whnf)) ?_)) | ((with_reducible refine AL.k_extract ?_); first | refine AL.q rfl (OQ.extract rfl rfl) ?_) | ((with_reducible refine AL.k_binOp ?_); first | refine AL.q rfl (OQ.neq rfl rfl) ?_) | ((with_reducible refine AL.k_load ?_); first | refine AL.q rfl (OQ.loadN (ty := 144) (n := 3) rfl (by kernel_rfl) (by kernel_rfl) rfl) ?_)); (conv => (arg 5; try tactic => exact nrm)))
        | ((first | ((with_reducible refine AL.k_call ?_); first | refine AL.pcall (g := 104) rfl (by kernel_rfl) rfl ((by first | exact HC _ _ (.blk 0 _ rfl rfl rfl) | exact HC _ _ (.nil h3 rfl) | exact HC _ _ (.lost h3 rfl))) ?_) | ((with_reducible refine AL.k_build ?_); first | refine AL.q rfl (OQ.buildA (ty := 34) (zs := [.int .i64 0, .int .i64 0, .int .i64 0, .int .i64 0]) (n := 2) (k := 2) (g := true) (by kernel_rfl) rfl (by kernel_rfl) rfl rfl rfl) ?_)); (conv => (arg 5; try tactic => exact nrm)))
        | ((first | ((with_reducible refine AL.k_store ?_); first | (refine AL.w rfl (OW.store (ty := 144) (n := 3) rfl (by conv => lhs; whnf) rfl rfl (by kernel_rfl) rfl rfl (by decide) rfl (Nat.le_of_ble_eq_true rfl) (by intro r h; cases h)) ?_) | (refine AL.w rfl (OW.store (ty := 34) (n := 4) rfl (by conv => lhs; whnf) rfl rfl (by kernel_rfl) rfl rfl (by decide) rfl (Nat.le_of_ble_eq_true rfl) (by intro r h; cases h)) ?_)) | ((with_reducible refine AL.k_alloc ?_); first | refine AL.w rfl (OW.alloc (ty := 34) (z := [.int .i64 0, .int .i64 0, .int .i64 0, .int .i64 0]) (by kernel_rfl) rfl) ?_ | refine AL.w rfl (OW.alloc (ty := 144) (z := [.int .i64 0, .int .i64 0, .int .i64 0]) (by kernel_rfl) rfl) ?_)); (conv => (arg 5; try tactic => exact nrm)); (conv => (arg 6; try tactic => exact nrm)))
        | refine AL.nil ?_)
      | ((with_reducible refine AW.on ?_); first
        | refine AW.seq ?_
        | refine AW.skip ?_
        | refine AW.exit ?_
        | refine AW.ret ?_
        | refine AW.block ?_
        | (refine AW.region (id := 4) ?_; exfalso; omega; done)
        | refine AW.region ?_
        | (refine AW.conds rfl (fun hc => ?_) (fun hc => ?_) <;> (try simp only [decide_eq_true_eq, decide_eq_false_iff_not, Bool.not_true, Bool.not_false, Bool.not_eq_true', Bool.not_eq_false', Int.not_lt, Int.not_le, Classical.not_not, ne_eq] at hc) <;> first | (exfalso; first | contradiction | (omega); done) | skip))
      | ((with_reducible refine FinP.on ?_); (first | refine FinP.ret (.cellN (n := 4) (by conv => lhs; whnf) (by kernel_rfl) (by kernel_rfl) rfl (.tmp (by conv => lhs; whnf) .nil)) ?_ rfl | refine FinP.end (.cellN (n := 4) (by conv => lhs; whnf) (by kernel_rfl) (by kernel_rfl) rfl (.tmp (by conv => lhs; whnf) .nil)) ?_ rfl); (try simp only [pack, List.drop, List.take]); all_goals (rfl)))
theorem HeightTrend_q {m : Mem} {v : Value} (hS : SlP m v l) (hR : CRight l) : PCalls Try.prog 59 [v] m (.tuple #[twV (lnS (prS l)) (lnC (prS l)) (lnD (prS l)), .int .i64 (twE (lnS (prS l)) (lnC (prS l)) (lnD (prS l)))]) := by
  refine SlG.up (us := []) hS (flatP_scal l) rfl (tw_flat _ _ _ _) fun v m0 h => ?_
  have hn1 := hR.n1
  have HT := fun (m : Mem) (v : Value) (hS : SlP m v l) => trend_q hS hR
  obtain ⟨g1, g2, g3, g4, g5, g6, g7⟩ := ln_prod (prS_pb hR) (by rw [prS_len]; exact hR.n24)
  have HF := lnfr_q (lnS (prS l)) (lnC (prS l)) (lnD (prS l)) (by unfold lnS; omega) (by unfold lnC; omega) (by unfold lnD; omega)
  generalize lnS (prS l) = S_ at *
  generalize lnC (prS l) = C_ at *
  generalize lnD (prS l) = D_ at *
  rcases h with ⟨rfl, rfl, h3⟩ | ⟨rfl, rfl, h3⟩ | ⟨z, rfl, rfl⟩
  · omega
  · omega
  by_cases hD : D_ = 0
  · subst hD
    simp only [if_true] at HT
    rw [show twV S_ C_ 0 = z4 by simp [twV], show twE S_ C_ 0 = 30 by simp [twE]]
    refine PCalls.enter (t := [.slice (some ⟨0, 0, none⟩) (l.length) INF, undef, undef, undef, undef, undef, undef, undef, undef, undef, undef, undef, undef, undef, undef, undef, undef, undef, undef]) Try.func59 rfl (ro1 _ rfl) rfl fun E => ?_
    repeat' (first
      | with_reducible refine Then.n ?_
      | with_reducible refine Then.r ?_
      | with_reducible refine Then.x ?_
      | with_reducible refine InB.n ?_
      | with_reducible refine InB.r ?_
      | with_reducible refine InB.hit ?_
      | with_reducible refine InB.miss (by decide) ?_
      | ((with_reducible refine AL.on ?_); first
        | ((first | ((with_reducible refine AL.k_assign ?_); first | (refine AL.q rfl (OQ.assign (by conv => lhs; whnf)) ?_)) | ((with_reducible refine AL.k_move ?_); first | (refine AL.q rfl (OQ.move (by conv => lhs; whnf)) ?_)) | ((with_reducible refine AL.k_extract ?_); first | refine AL.q rfl (OQ.extract rfl rfl) ?_) | ((with_reducible refine AL.k_binOp ?_); first | refine AL.q rfl (OQ.neq rfl rfl) ?_) | ((with_reducible refine AL.k_load ?_); first | refine AL.q rfl (OQ.loadN (ty := 144) (n := 3) rfl (by kernel_rfl) (by kernel_rfl) rfl) ?_)); (conv => (arg 5; try tactic => exact nrm)))
        | ((first | ((with_reducible refine AL.k_call ?_); first | refine AL.pcall (g := 104) rfl (by kernel_rfl) rfl (HT _ _ (.blk 0 _ rfl rfl rfl)) ?_) | ((with_reducible refine AL.k_build ?_); first | refine AL.q rfl (OQ.buildA (ty := 34) (zs := [.int .i64 0, .int .i64 0, .int .i64 0, .int .i64 0]) (n := 2) (k := 2) (g := true) (by kernel_rfl) rfl (by kernel_rfl) rfl rfl rfl) ?_)); (conv => (arg 5; try tactic => exact nrm)))
        | ((first | ((with_reducible refine AL.k_store ?_); first | (refine AL.w rfl (OW.store (ty := 144) (n := 3) rfl (by conv => lhs; whnf) rfl rfl (by kernel_rfl) rfl rfl (by decide) rfl (Nat.le_of_ble_eq_true rfl) (by intro r h; cases h)) ?_) | (refine AL.w rfl (OW.store (ty := 34) (n := 4) rfl (by conv => lhs; whnf) rfl rfl (by kernel_rfl) rfl rfl (by decide) rfl (Nat.le_of_ble_eq_true rfl) (by intro r h; cases h)) ?_)) | ((with_reducible refine AL.k_alloc ?_); first | refine AL.w rfl (OW.alloc (ty := 34) (z := [.int .i64 0, .int .i64 0, .int .i64 0, .int .i64 0]) (by kernel_rfl) rfl) ?_ | refine AL.w rfl (OW.alloc (ty := 144) (z := [.int .i64 0, .int .i64 0, .int .i64 0]) (by kernel_rfl) rfl) ?_)); (conv => (arg 5; try tactic => exact nrm)); (conv => (arg 6; try tactic => exact nrm)))
        | refine AL.nil ?_)
      | ((with_reducible refine AW.on ?_); first
        | refine AW.seq ?_
        | refine AW.skip ?_
        | refine AW.exit ?_
        | refine AW.ret ?_
        | refine AW.block ?_
        | (refine AW.region (id := 4) ?_; exfalso; omega; done)
        | refine AW.region ?_
        | (refine AW.conds rfl (fun hc => ?_) (fun hc => ?_) <;> (try simp only [decide_eq_true_eq, decide_eq_false_iff_not, Bool.not_true, Bool.not_false, Bool.not_eq_true', Bool.not_eq_false', Int.not_lt, Int.not_le, Classical.not_not, ne_eq] at hc) <;> first | (exfalso; first | contradiction | (omega); done) | skip))
      | ((with_reducible refine FinP.on ?_); (first | refine FinP.ret (.cellN (n := 4) (by conv => lhs; whnf) (by kernel_rfl) (by kernel_rfl) rfl (.tmp (by conv => lhs; whnf) .nil)) ?_ rfl | refine FinP.end (.cellN (n := 4) (by conv => lhs; whnf) (by kernel_rfl) (by kernel_rfl) rfl (.tmp (by conv => lhs; whnf) .nil)) ?_ rfl); (try simp only [pack, List.drop, List.take]); all_goals (rfl)))
  · simp only [if_neg hD] at HT
    have HF' := HF hD
    obtain ⟨w0, w1, w2, w3, ew⟩ := twV_form S_ C_ D_
    rw [ew] at HF' ⊢
    generalize twE S_ C_ D_ = ee at *
    refine PCalls.enter (t := [.slice (some ⟨0, 0, none⟩) (l.length) INF, undef, undef, undef, undef, undef, undef, undef, undef, undef, undef, undef, undef, undef, undef, undef, undef, undef, undef]) Try.func59 rfl (ro1 _ rfl) rfl fun E => ?_
    repeat' (first
      | with_reducible refine Then.n ?_
      | with_reducible refine Then.r ?_
      | with_reducible refine Then.x ?_
      | with_reducible refine InB.n ?_
      | with_reducible refine InB.r ?_
      | with_reducible refine InB.hit ?_
      | with_reducible refine InB.miss (by decide) ?_
      | ((with_reducible refine AL.on ?_); first
        | ((first | ((with_reducible refine AL.k_assign ?_); first | (refine AL.q rfl (OQ.assign (by conv => lhs; whnf)) ?_)) | ((with_reducible refine AL.k_move ?_); first | (refine AL.q rfl (OQ.move (by conv => lhs; whnf)) ?_)) | ((with_reducible refine AL.k_extract ?_); first | refine AL.q rfl (OQ.extract rfl rfl) ?_) | ((with_reducible refine AL.k_binOp ?_); first | refine AL.q rfl (OQ.neq rfl rfl) ?_) | ((with_reducible refine AL.k_load ?_); first | refine AL.q rfl (OQ.loadN (ty := 144) (n := 3) rfl (by kernel_rfl) (by kernel_rfl) rfl) ?_)); (conv => (arg 5; try tactic => exact nrm)))
        | ((first | ((with_reducible refine AL.k_call ?_); first | refine AL.pcall (g := 104) rfl (by kernel_rfl) rfl (HT _ _ (.blk 0 _ rfl rfl rfl)) ?_ | refine AL.pcall (g := 74) rfl (by kernel_rfl) rfl (HF' _) ?_) | ((with_reducible refine AL.k_build ?_); first | refine AL.q rfl (OQ.buildA (ty := 34) (zs := [.int .i64 0, .int .i64 0, .int .i64 0, .int .i64 0]) (n := 2) (k := 2) (g := true) (by kernel_rfl) rfl (by kernel_rfl) rfl rfl rfl) ?_)); (conv => (arg 5; try tactic => exact nrm)))
        | ((first | ((with_reducible refine AL.k_store ?_); first | (refine AL.w rfl (OW.store (ty := 144) (n := 3) rfl (by conv => lhs; whnf) rfl rfl (by kernel_rfl) rfl rfl (by decide) rfl (Nat.le_of_ble_eq_true rfl) (by intro r h; cases h)) ?_) | (refine AL.w rfl (OW.store (ty := 34) (n := 4) rfl (by conv => lhs; whnf) rfl rfl (by kernel_rfl) rfl rfl (by decide) rfl (Nat.le_of_ble_eq_true rfl) (by intro r h; cases h)) ?_)) | ((with_reducible refine AL.k_alloc ?_); first | refine AL.w rfl (OW.alloc (ty := 34) (z := [.int .i64 0, .int .i64 0, .int .i64 0, .int .i64 0]) (by kernel_rfl) rfl) ?_ | refine AL.w rfl (OW.alloc (ty := 144) (z := [.int .i64 0, .int .i64 0, .int .i64 0]) (by kernel_rfl) rfl) ?_)); (conv => (arg 5; try tactic => exact nrm)); (conv => (arg 6; try tactic => exact nrm)))
        | refine AL.nil ?_)
      | ((with_reducible refine AW.on ?_); first
        | refine AW.seq ?_
        | refine AW.skip ?_
        | refine AW.exit ?_
        | refine AW.ret ?_
        | refine AW.block ?_
        | (refine AW.region (id := 3) ?_; exfalso; omega; done)
        | refine AW.region ?_
        | (refine AW.conds rfl (fun hc => ?_) (fun hc => ?_) <;> (try simp only [decide_eq_true_eq, decide_eq_false_iff_not, Bool.not_true, Bool.not_false, Bool.not_eq_true', Bool.not_eq_false', Int.not_lt, Int.not_le, Classical.not_not, ne_eq] at hc) <;> first | (exfalso; first | contradiction | (omega); done) | skip))
      | ((with_reducible refine FinP.on ?_); (first | refine FinP.ret (.cellN (n := 4) (by conv => lhs; whnf) (by kernel_rfl) (by kernel_rfl) rfl (.tmp (by conv => lhs; whnf) .nil)) ?_ rfl | refine FinP.end (.cellN (n := 4) (by conv => lhs; whnf) (by kernel_rfl) (by kernel_rfl) rfl (.tmp (by conv => lhs; whnf) .nil)) ?_ rfl); (try simp only [pack, List.drop, List.take]); all_goals (rfl)))
theorem rHeightTrend_q {m : Mem} {v : Value} (hS : SlP m v l) (hR : CRight l) : PCalls Try.prog 62 [v] m (.tuple #[twV (lnS (prS l)) (lnC (prS l)) (lnD (prS l)), .int .i64 (twE (lnS (prS l)) (lnC (prS l)) (lnD (prS l)))]) := by
  refine SlG.up (us := []) hS (flatP_scal l) rfl (tw_flat _ _ _ _) fun v m0 h => ?_
  have hn1 := hR.n1
  have HT := fun (m : Mem) (v : Value) (hS : SlP m v l) => rtrend_q hS hR
  obtain ⟨g1, g2, g3, g4, g5, g6, g7⟩ := ln_prod (prS_pb hR) (by rw [prS_len]; exact hR.n24)
  have HF := two_q (lnS (prS l)) (lnC (prS l)) (lnD (prS l)) (by unfold lnS; omega) (by unfold lnC; omega) (by unfold lnD; omega)
  generalize lnS (prS l) = S_ at *
  generalize lnC (prS l) = C_ at *
  generalize lnD (prS l) = D_ at *
  rcases h with ⟨rfl, rfl, h3⟩ | ⟨rfl, rfl, h3⟩ | ⟨z, rfl, rfl⟩
  · omega
  · omega
  obtain ⟨w0, w1, w2, w3, ew⟩ := twV_form S_ C_ D_
  rw [ew] at HF ⊢
  generalize twE S_ C_ D_ = ee at *
  refine PCalls.enter (t := [.slice (some ⟨0, 0, none⟩) (l.length) INF, undef, undef, undef, undef, undef, undef, undef, undef, undef, undef, undef]) Try.func62 rfl (ro1 _ rfl) rfl fun E => ?_
  repeat' (first
    | with_reducible refine Then.n ?_
    | with_reducible refine Then.r ?_
    | with_reducible refine Then.x ?_
    | with_reducible refine InB.n ?_
    | with_reducible refine InB.r ?_
    | with_reducible refine InB.hit ?_
    | with_reducible refine InB.miss (by decide) ?_
    | ((with_reducible refine AL.on ?_); first
      | ((first | ((with_reducible refine AL.k_extract ?_); first | refine AL.q rfl (OQ.extract rfl rfl) ?_) | ((with_reducible refine AL.k_assign ?_); first | (refine AL.q rfl (OQ.assign (by conv => lhs; whnf)) ?_)) | ((with_reducible refine AL.k_move ?_); first | (refine AL.q rfl (OQ.move (by conv => lhs; whnf)) ?_))); (conv => (arg 5; try tactic => exact nrm)))
      | ((first | first | refine AL.pcall (g := 106) rfl (by kernel_rfl) rfl (HT _ _ (.blk 0 _ rfl rfl rfl)) ?_ | refine AL.pcall (g := 81) rfl (by kernel_rfl) rfl (HF _) ?_); (conv => (arg 5; try tactic => exact nrm)))
      | ((first | ((with_reducible refine AL.k_alloc ?_); first | refine AL.w rfl (OW.alloc (ty := 34) (z := [.int .i64 0, .int .i64 0, .int .i64 0, .int .i64 0]) (by kernel_rfl) rfl) ?_) | ((with_reducible refine AL.k_store ?_); first | (refine AL.w rfl (OW.store (ty := 34) (n := 4) rfl (by conv => lhs; whnf) rfl rfl (by kernel_rfl) rfl rfl (by decide) rfl (Nat.le_of_ble_eq_true rfl) (by intro r h; cases h)) ?_))); (conv => (arg 5; try tactic => exact nrm)); (conv => (arg 6; try tactic => exact nrm)))
      | refine AL.nil ?_)
    | ((with_reducible refine AW.on ?_); first
      | refine AW.seq ?_
      | refine AW.skip ?_
      | refine AW.exit ?_
      | refine AW.ret ?_
      | refine AW.block ?_
      | refine AW.region ?_
      | (refine AW.conds rfl (fun hc => ?_) (fun hc => ?_) <;> (try simp only [decide_eq_true_eq, decide_eq_false_iff_not, Bool.not_true, Bool.not_false, Bool.not_eq_true', Bool.not_eq_false', Int.not_lt, Int.not_le, Classical.not_not, ne_eq] at hc) <;> first | (exfalso; first | contradiction | (omega); done) | skip))
    | ((with_reducible refine FinP.on ?_); (first | refine FinP.ret (.cellN (n := 4) (by conv => lhs; whnf) (by kernel_rfl) (by kernel_rfl) rfl (.tmp (by conv => lhs; whnf) .nil)) ?_ rfl | refine FinP.end (.cellN (n := 4) (by conv => lhs; whnf) (by kernel_rfl) (by kernel_rfl) rfl (.tmp (by conv => lhs; whnf) .nil)) ?_ rfl); (try simp only [pack, List.drop, List.take]); all_goals (rfl)))
end
end Go.Proofs.Ytnocdnhhlppahaa
