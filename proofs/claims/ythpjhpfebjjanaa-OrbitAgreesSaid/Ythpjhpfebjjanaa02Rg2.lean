/- Chapter 2: lists of ranges in the small memory: one tick more, equality, how many ticks. -/
/- Chapter 2: lists of ranges in the small memory: equality, how many ticks. -/
import Derived.Test.Ythpjhpfebjjanaa02Rg
import Derived.Test.Ythpjhpfebjjanaa02C
import Derived.Test.Ythpjhpfebjjanaa02Bm
set_option linter.unusedSimpArgs false
set_option linter.unusedVariables false
section
namespace Go.Proofs.Ythpjhpfebjjanaa
open Go Go.RowKit Go.Ob Go.Ab
set_option maxRecDepth 100000
set_option maxHeartbeats 1000000
attribute [local irreducible] OQ OW AL AW AD AF SW

theorem rgV_rn (σ : Nat → Nat) (b : Nat) (L : List (Int × Int)) : rn3 σ (rgV b L) = rgV (σ b) L := by
  unfold rgV
  split <;> rfl
theorem rgV_ok {n b : Nat} (L : List (Int × Int)) (h : b < n) : ok3 n (rgV b L) = true := by
  unfold rgV
  split
  · rfl
  · simp [ok3, ok2, ok1, h]
theorem rgV_rn2 (σ : Nat → Nat) (b : Nat) (L : List (Int × Int)) : rn2 σ (rgV b L) = rgV (σ b) L := by
  unfold rgV
  split <;> rfl
theorem rgV_ok2 {n b : Nat} (L : List (Int × Int)) (h : b < n) : ok2 n (rgV b L) = true := by
  unfold rgV
  split
  · rfl
  · simp [ok2, ok1, h]
theorem rgB_spec {L : List (Int × Int)} {b : Blk} (h : rgB L = some b) : L ≠ [] ∧ b = ⟨flatR L, true, 2⟩ := by
  unfold rgB at h
  split at h
  · cases h
  · rename_i hl
    cases h
    exact ⟨hl, rfl⟩
theorem rgB_scal (L : List (Int × Int)) : ∀ b, rgB L = some b → b.own = true ∧ b.cells.all Ab.scal = true := fun b h => by
  obtain ⟨_, rfl⟩ := rgB_spec h
  exact ⟨rfl, flatR_scal L⟩

theorem grown_nil (t : Int) : ACalls Try.prog 82 [.slice none 0 0, .int .i64 t] [] (.slice (some ⟨0, 0, none⟩) 1 INF) [some ⟨[.int .i64 t, .int .i64 t], true, 2⟩] := by
  refine ACalls.enter (t := [.slice none 0 0, .int .i64 t, undef, undef, undef, undef, undef, undef, undef, undef, undef, undef, undef, undef, undef, undef, undef, undef, undef, undef, undef, undef, undef, undef, undef, undef, undef, undef, undef, undef, undef, undef, undef, undef, undef, undef, undef, undef, undef, undef, undef, undef, undef, undef, undef]) Try.func82 rfl rfl fun E hE => ?_
  repeat' (first
    | with_reducible refine Then.n ?_
    | with_reducible refine Then.r ?_
    | with_reducible refine Then.x ?_
    | with_reducible refine InB.n ?_
    | with_reducible refine InB.r ?_
    | with_reducible refine InB.hit ?_
    | with_reducible refine InB.miss (by decide) ?_
    | ((with_reducible refine AL.on ?_); first
      | (refine AL.gd rfl ?_; first | (refine AL.gskip rfl rfl ?_; (conv => (arg 5; try tactic => exact nrm))) | (refine AL.gs1 rfl rfl (fun hc => ?_) (fun hc => ?_) <;> (try simp only [decide_eq_true_eq, decide_eq_false_iff_not, Bool.not_true, Bool.not_false, Bool.not_eq_true', Bool.not_eq_false', Int.not_lt, Int.not_le, Classical.not_not, ne_eq] at hc) <;> first | (exfalso; first | contradiction | (first | omega | (simp_all; done)); done) | (conv => (arg 5; try tactic => exact nrm))) | (refine AL.gs0 rfl rfl (fun hc => ?_) (fun hc => ?_) <;> (try simp only [decide_eq_true_eq, decide_eq_false_iff_not, Bool.not_true, Bool.not_false, Bool.not_eq_true', Bool.not_eq_false', Int.not_lt, Int.not_le, Classical.not_not, ne_eq] at hc) <;> first | (exfalso; first | contradiction | (first | omega | (simp_all; done)); done) | (conv => (arg 5; try tactic => exact nrm))))
      | ((first | ((with_reducible refine AL.k_move ?_); first | (refine AL.q rfl (OQ.move (by conv => lhs; whnf)) ?_)) | ((with_reducible refine AL.k_binOp ?_); first | refine AL.q rfl (OQ.gtr rfl rfl) ?_ | refine AL.q rfl (OQ.subi rfl rfl (by omega)) ?_ | refine AL.q rfl (OQ.sub rfl rfl) ?_ | refine AL.q rfl (OQ.eql rfl rfl) ?_) | ((with_reducible refine AL.k_call ?_); first | refine AL.q rfl (OQ.lenS (xt := 29) (r := (none, 2, true)) rfl (by kernel_rfl)) ?_) | ((with_reducible refine AL.k_assign ?_); first | (refine AL.q rfl (OQ.assign (by conv => lhs; whnf)) ?_)) | ((with_reducible refine AL.k_indexAddr ?_); first | refine AL.q rfl (OQ.idxAddr (ty := 29) (z := 2) (g := true) rfl rfl (by kernel_rfl) (by omega) (by omega)) ?_) | ((with_reducible refine AL.k_fieldAddr ?_); first | refine AL.q rfl (OQ.fieldA (ty := 44) (i := 1) (n := 1) (off := 1) (g := false) rfl (by kernel_rfl) (by decide)) ?_) | ((with_reducible refine AL.k_load ?_); first | (refine AL.q rfl (OQ.load1 (ty := 3) rfl (by kernel_rfl) (by conv => lhs; whnf)) ?_)) | ((with_reducible refine AL.k_pick ?_); first | (refine AL.q rfl (OQ.pickT rfl (by with_reducible rfl) (by conv => lhs; whnf)) ?_) | (refine AL.q rfl (OQ.pickF rfl (by with_reducible rfl) (by conv => lhs; whnf)) ?_))); (conv => (arg 5; try tactic => exact nrm)))
      | ((first | first | refine AL.q rfl (OQ.buildS (ty := 44) (zs := [.int .i64 0, .int .i64 0]) (pls := [(0, 1), (1, 1)]) (by kernel_rfl) rfl (by kernel_rfl) rfl rfl rfl) ?_); (conv => (arg 5; try tactic => exact nrm)))
      | ((first | ((with_reducible refine AL.k_call ?_); first | refine AL.q rfl (OQ.append0 (v := undef) (z := 2) (e := 44) rfl rfl (by kernel_rfl) (by kernel_rfl)) ?_ | refine AL.w rfl (OW.append (n := 0) (b := 0) (bx := 1) (k := 1) (z := 2) (by' := 16) (zs := [.int .i64 0, .int .i64 0]) (e := 44) rfl rfl (by kernel_rfl) (by kernel_rfl) (by kernel_rfl) rfl (by kernel_rfl) (by decide) rfl rfl rfl (by decide) (Nat.le_refl _) rfl rfl (by decide) (by decide)) ?_) | ((with_reducible refine AL.k_buildSlice ?_); first | refine AL.w rfl (OW.buildSl0 (ty := 29) (z := (none, 2, true)) (by kernel_rfl)) ?_ | refine AL.w rfl (OW.buildSl (ty := 29) (zs := [.int .i64 0, .int .i64 0]) (n := 2) (g := true) (by kernel_rfl) (by kernel_rfl) rfl rfl rfl (by decide) (by decide) rfl rfl) ?_)); (conv => (arg 5; try tactic => exact nrm)); (conv => (arg 6; try tactic => exact nrm)))
      | (refine AL.bs rfl (fun hc => ?_) (fun hc => ?_) <;> (fail_if_success (with_reducible exact lit_no hc)) <;> (try simp only [decide_eq_true_eq, decide_eq_false_iff_not, Bool.not_true, Bool.not_false, Bool.not_eq_true', Bool.not_eq_false', Int.not_lt, Int.not_le, Classical.not_not, ne_eq] at hc) <;> first | (exfalso; first | contradiction | (first | omega | (simp_all; done)); done) | (conv => (arg 5; try tactic => exact nrm)))
      | refine AL.nil ?_)
    | ((with_reducible refine AW.on ?_); first
      | refine AW.seq ?_
      | refine AW.skip ?_
      | refine AW.exit ?_
      | refine AW.ret ?_
      | refine AW.block ?_
      | (refine AW.drawF (id := 3) 15 #[0, 0, 0, 4, 14, 31, 0, 0, 128, 448, 960, 1984, 0, 8128, 16320, 32767, 65535] (by kernel_rfl) (by kernel_rfl) ?_; (conv => (arg 8; simp only [List.take_succ_cons, List.take_zero])))
      | refine AW.region ?_
      | (refine AW.conds rfl (fun hc => ?_) (fun hc => ?_) <;> (try simp only [decide_eq_true_eq, decide_eq_false_iff_not, Bool.not_true, Bool.not_false, Bool.not_eq_true', Bool.not_eq_false', Int.not_lt, Int.not_le, Classical.not_not, ne_eq] at hc) <;> first | (exfalso; first | contradiction | (first | omega | (simp_all; done)); done) | skip))
    | ((with_reducible refine AF.on ?_); first
      | ((first | ((with_reducible refine AF.k_move ?_); first | (refine AF.q 0 (SW.q (OQ.move (by conv => lhs; whnf)) rfl) ?_)) | ((with_reducible refine AF.k_binOp ?_); first | refine AF.q 0 (SW.q (OQ.subi rfl rfl (by omega)) rfl) ?_ | refine AF.q 0 (SW.q (OQ.sub rfl rfl) rfl) ?_) | ((with_reducible refine AF.k_indexAddr ?_); first | refine AF.q 0 (SW.q (OQ.idxAddr (ty := 29) (z := 2) (g := true) rfl rfl (by kernel_rfl) (by omega) (by omega)) rfl) ?_) | ((with_reducible refine AF.k_fieldAddr ?_); first | refine AF.q 0 (SW.q (OQ.fieldA (ty := 44) (i := 0) (n := 1) (off := 0) (g := false) rfl (by kernel_rfl) (by decide)) rfl) ?_) | ((with_reducible refine AF.k_load ?_); first | (refine AF.ql rfl (SW.q (OQ.load1 (ty := 3) rfl (by kernel_rfl) (by conv => lhs; whnf)) rfl) ?_)) | ((with_reducible refine AF.k_build ?_); first | refine AF.q 0 (SW.q (OQ.buildS (ty := 44) (zs := [.int .i64 0, .int .i64 0]) (pls := [(0, 1), (1, 1)]) (by kernel_rfl) rfl (by kernel_rfl) rfl rfl rfl) rfl) ?_)); (conv => (arg 9; try tactic => exact nrmF)); (conv => (arg 11; try simp only [List.nil_append, List.cons_append])))
      | ((first | ((with_reducible refine AF.k_call ?_); first | refine AF.al rfl (SW.w (OW.append (n := 0) (b := 0) (bx := 1) (k := 1) (z := 2) (by' := 16) (zs := [.int .i64 0, .int .i64 0]) (e := 44) rfl rfl (by kernel_rfl) (by kernel_rfl) (by kernel_rfl) rfl (by kernel_rfl) (by decide) rfl rfl rfl (by decide) (Nat.le_refl _) rfl rfl (by decide) (by decide)) rfl) rfl ?_ | refine AF.q 2 (SW.q (OQ.append0 (v := undef) (z := 2) (e := 44) rfl rfl (by kernel_rfl) (by kernel_rfl)) rfl) ?_ | refine AF.n1 2 (SW.w (OW.append (n := 0) (b := 0) (bx := 1) (k := 1) (z := 2) (by' := 16) (zs := [.int .i64 0, .int .i64 0]) (e := 44) rfl rfl (by kernel_rfl) (by kernel_rfl) (by kernel_rfl) rfl (by kernel_rfl) (by decide) rfl rfl rfl (by decide) (Nat.le_refl _) rfl rfl (by decide) (by decide)) rfl) rfl ?_) | ((with_reducible refine AF.k_buildSlice ?_); first | refine AF.n1 0 (SW.w (OW.buildSl0 (ty := 29) (z := (none, 2, true)) (by kernel_rfl)) rfl) rfl ?_ | refine AF.n1 0 (SW.w (OW.buildSl (ty := 29) (zs := [.int .i64 0, .int .i64 0]) (n := 2) (g := true) (by kernel_rfl) (by kernel_rfl) rfl rfl rfl (by decide) (by decide) rfl rfl) rfl) rfl ?_)); (conv => (arg 9; try tactic => exact nrmF)); (conv => (arg 11; try simp only [List.nil_append, List.cons_append])); (conv => (arg 10; try tactic => exact nrmF)))
      | (refine AF.nil ?_ (by kernel_rfl); (conv => (arg 4; simp only [List.drop_succ_cons, List.drop_zero, List.drop_nil]))))
    | ((with_reducible refine FinA.on ?_); (refine FinA.keep 0 [2] (.inl rfl) (.tmp (by conv => lhs; whnf) .nil) ?_ rfl (Nat.le_of_eq hE) rfl rfl ⟨⟨_, rfl, rfl, rfl, .inl ⟨rfl, rfl⟩⟩, trivial⟩; rfl)))

/-- The last range lengthened, or a new range behind. -/
theorem len_snoc2 {cs : List Value} {n : Nat} (a b : Value) (h : cs.length = n * 2) : (cs ++ [a, b]).length = (n + 1) * 2 := by simp [h]; omega
theorem get_last0 {cs : List Value} {n : Nat} (a b : Value) (h : cs.length = n * 2) : (cs ++ [a, b])[(((n + 1 : Nat) : Int) - 1).toNat * 2]? = some a := by
  have : (((n + 1 : Nat) : Int) - 1).toNat = n := by omega
  rw [this, List.getElem?_append_right (by omega), h, Nat.sub_self]
  rfl

theorem sc2 (L : List (Int × Int)) (a b t : Int) : (flatR L ++ [Value.int .i64 a, Value.int .i64 b] ++ [Value.int .i64 t, Value.int .i64 t]).all Ab.scal = true := by
  rw [List.all_append, sc_snoc]
  rfl
theorem tk_all {cs : List Value} {n : Nat} (h : cs.length = n) : cs.take n = cs := List.take_of_length_le (by omega)
theorem grown_new (L : List (Int × Int)) (a b t : Int) (hb : b ≠ t - 1) (hL : L.length ≤ 100000) (ht : -1000000000000 ≤ t ∧ t ≤ 1000000000000) :
    ACalls Try.prog 82 [.slice (some ⟨0, 0, none⟩) (L.length + 1) INF, .int .i64 t] [some ⟨flatR L ++ [.int .i64 a, .int .i64 b], false, 2⟩] (.slice (some ⟨1, 0, none⟩) (L.length + 1 + 1) INF) [some ⟨flatR L ++ [.int .i64 a, .int .i64 b], false, 2⟩, some ⟨flatR L ++ [.int .i64 a, .int .i64 b] ++ [.int .i64 t, .int .i64 t], true, 2⟩] := by
  have hg := get_last (n := L.length) (.int .i64 a) (.int .i64 b) (flatR_len L)
  have hlen := len_snoc2 (n := L.length) (.int .i64 a) (.int .i64 b) (flatR_len L)
  have hld : ∀ m : Mem, Mem.ld (some ⟨flatR L ++ [.int .i64 a, .int .i64 b], false, 2⟩ :: m) 0 0 ((L.length + 1) * 2) = some (flatR L ++ [.int .i64 a, .int .i64 b]) := fun m => by
    simp only [Mem.ld, Mem.at, List.getD_cons_zero, Option.bind]
    rw [if_pos (by omega), List.drop_zero, List.take_of_length_le (by omega)]
  have hone := one_of_scal (sc_snoc L a b)
  have htk : ∀ u v : Value, flatR L ++ [.int .i64 a, .int .i64 b] ++ [u, v] = List.take ((L.length + 1) * 2) (flatR L ++ [.int .i64 a, .int .i64 b]) ++ [u, v] := fun u v => by
    rw [tk_all (by omega)]
  refine ACalls.enter (t := [.slice (some ⟨0, 0, none⟩) (L.length + 1) INF, .int .i64 t, undef, undef, undef, undef, undef, undef, undef, undef, undef, undef, undef, undef, undef, undef, undef, undef, undef, undef, undef, undef, undef, undef, undef, undef, undef, undef, undef, undef, undef, undef, undef, undef, undef, undef, undef, undef, undef, undef, undef, undef, undef, undef, undef]) Try.func82 rfl rfl fun E hE => ?_
  repeat' (first
    | with_reducible refine Then.n ?_
    | with_reducible refine Then.r ?_
    | with_reducible refine Then.x ?_
    | with_reducible refine InB.n ?_
    | with_reducible refine InB.r ?_
    | with_reducible refine InB.hit ?_
    | with_reducible refine InB.miss (by decide) ?_
    | ((with_reducible refine AL.on ?_); first
      | (refine AL.gd rfl ?_; first | (refine AL.gskip rfl rfl ?_; (conv => (arg 5; try tactic => exact nrm))) | (refine AL.gs1 rfl rfl (fun hc => ?_) (fun hc => ?_) <;> (try simp only [decide_eq_true_eq, decide_eq_false_iff_not, Bool.not_true, Bool.not_false, Bool.not_eq_true', Bool.not_eq_false', Int.not_lt, Int.not_le, Classical.not_not, ne_eq] at hc) <;> first | (exfalso; first | contradiction | (first | omega | (simp_all; done)); done) | (conv => (arg 5; try tactic => exact nrm))) | (refine AL.gs0 rfl rfl (fun hc => ?_) (fun hc => ?_) <;> (try simp only [decide_eq_true_eq, decide_eq_false_iff_not, Bool.not_true, Bool.not_false, Bool.not_eq_true', Bool.not_eq_false', Int.not_lt, Int.not_le, Classical.not_not, ne_eq] at hc) <;> first | (exfalso; first | contradiction | (first | omega | (simp_all; done)); done) | (conv => (arg 5; try tactic => exact nrm))))
      | ((first | ((with_reducible refine AL.k_move ?_); first | (refine AL.q rfl (OQ.move (by conv => lhs; whnf)) ?_)) | ((with_reducible refine AL.k_binOp ?_); first | refine AL.q rfl (OQ.gtr rfl rfl) ?_ | refine AL.q rfl (OQ.subi rfl rfl (by omega)) ?_ | refine AL.q rfl (OQ.sub rfl rfl) ?_ | refine AL.q rfl (OQ.eql rfl rfl) ?_) | ((with_reducible refine AL.k_call ?_); first | refine AL.q rfl (OQ.lenS (xt := 29) (r := (none, 2, true)) rfl (by kernel_rfl)) ?_) | ((with_reducible refine AL.k_assign ?_); first | (refine AL.q rfl (OQ.assign (by conv => lhs; whnf)) ?_)) | ((with_reducible refine AL.k_load ?_); first | (refine AL.q rfl (OQ.load1 (ty := 3) rfl (by kernel_rfl) (by first | (exact hg) | (conv => lhs; whnf))) ?_)) | ((with_reducible refine AL.k_pick ?_); first | (refine AL.q rfl (OQ.pickT rfl (by with_reducible rfl) (by conv => lhs; whnf)) ?_) | (refine AL.q rfl (OQ.pickF rfl (by with_reducible rfl) (by conv => lhs; whnf)) ?_))); (conv => (arg 5; try tactic => exact nrm)))
      | ((first | ((with_reducible refine AL.k_indexAddr ?_); first | refine AL.q rfl (OQ.idxAddr (ty := 29) (z := 2) (g := true) rfl rfl (by kernel_rfl) (by omega) (by omega)) ?_) | ((with_reducible refine AL.k_fieldAddr ?_); first | refine AL.q rfl (OQ.fieldA (ty := 44) (i := 1) (n := 1) (off := 1) (g := false) rfl (by kernel_rfl) (by decide)) ?_) | ((with_reducible refine AL.k_build ?_); first | refine AL.q rfl (OQ.buildS (ty := 44) (zs := [.int .i64 0, .int .i64 0]) (pls := [(0, 1), (1, 1)]) (by kernel_rfl) rfl (by kernel_rfl) rfl rfl rfl) ?_)); (conv => (arg 5; try tactic => exact nrm)))
      | ((first | ((with_reducible refine AL.k_call ?_); first | refine AL.w rfl (by first | exact OW.append (n := 0) (b := 1) (bx := 0) (k := L.length + 1) (z := 2) (by' := 16) (zs := [.int .i64 0, .int .i64 0]) (e := 44) rfl rfl (by kernel_rfl) (by kernel_rfl) (by kernel_rfl) rfl (by kernel_rfl) (by omega) rfl rfl rfl (by decide) (by simp) (hld _) hone (by omega) (by omega) | exact OW.append (n := L.length + 1) (b := 2) (bx := 3) (k := 1) (z := 2) (by' := 16) (zs := [.int .i64 0, .int .i64 0]) (e := 44) rfl rfl (by kernel_rfl) (by kernel_rfl) (by kernel_rfl) rfl (by kernel_rfl) (by decide) rfl rfl rfl (by decide) (le_snoc L _ _) rfl rfl (by omega) (by omega)) ?_) | ((with_reducible refine AL.k_buildSlice ?_); first | refine AL.w rfl (OW.buildSl0 (ty := 29) (z := (none, 2, true)) (by kernel_rfl)) ?_ | refine AL.w rfl (OW.buildSl (ty := 29) (zs := [.int .i64 0, .int .i64 0]) (n := 2) (g := true) (by kernel_rfl) (by kernel_rfl) rfl rfl rfl (by decide) (by decide) rfl rfl) ?_)); (conv => (arg 5; try tactic => exact nrm)); (conv => (arg 6; try tactic => exact nrm)))
      | (refine AL.bs rfl (fun hc => ?_) (fun hc => ?_) <;> (fail_if_success (with_reducible exact lit_no hc)) <;> (try simp only [decide_eq_true_eq, decide_eq_false_iff_not, Bool.not_true, Bool.not_false, Bool.not_eq_true', Bool.not_eq_false', Int.not_lt, Int.not_le, Classical.not_not, ne_eq] at hc) <;> first | (exfalso; first | contradiction | (first | omega | (simp_all; done)); done) | (conv => (arg 5; try tactic => exact nrm)))
      | refine AL.nil ?_)
    | ((with_reducible refine AW.on ?_); first
      | refine AW.seq ?_
      | refine AW.skip ?_
      | refine AW.exit ?_
      | refine AW.ret ?_
      | refine AW.block ?_
      | (refine AW.drawF (id := 3) 15 #[0, 0, 0, 4, 14, 31, 0, 0, 128, 448, 960, 1984, 0, 8128, 16320, 32767, 65535] (by kernel_rfl) (by kernel_rfl) ?_; (conv => (arg 8; simp only [List.take_succ_cons, List.take_zero])))
      | refine AW.region ?_
      | (refine AW.conds rfl (fun hc => ?_) (fun hc => ?_) <;> (try simp only [decide_eq_true_eq, decide_eq_false_iff_not, Bool.not_true, Bool.not_false, Bool.not_eq_true', Bool.not_eq_false', Int.not_lt, Int.not_le, Classical.not_not, ne_eq] at hc) <;> first | (exfalso; first | contradiction | (first | omega | (simp_all; done)); done) | skip))
    | ((with_reducible refine AF.on ?_); first
      | ((first | ((with_reducible refine AF.k_move ?_); first | (refine AF.q 0 (SW.q (OQ.move (by conv => lhs; whnf)) rfl) ?_)) | ((with_reducible refine AF.k_binOp ?_); first | refine AF.q 0 (SW.q (OQ.subi rfl rfl (by omega)) rfl) ?_ | refine AF.q 0 (SW.q (OQ.sub rfl rfl) rfl) ?_) | ((with_reducible refine AF.k_indexAddr ?_); first | refine AF.q 0 (SW.q (OQ.idxAddr (ty := 29) (z := 2) (g := true) rfl rfl (by kernel_rfl) (by omega) (by omega)) rfl) ?_) | ((with_reducible refine AF.k_fieldAddr ?_); first | refine AF.q 0 (SW.q (OQ.fieldA (ty := 44) (i := 0) (n := 1) (off := 0) (g := false) rfl (by kernel_rfl) (by decide)) rfl) ?_) | ((with_reducible refine AF.k_load ?_); first | (refine AF.ql rfl (SW.q (OQ.load1 (ty := 3) rfl (by kernel_rfl) (by first | (exact hg) | (conv => lhs; whnf))) rfl) ?_)) | ((with_reducible refine AF.k_build ?_); first | refine AF.q 0 (SW.q (OQ.buildS (ty := 44) (zs := [.int .i64 0, .int .i64 0]) (pls := [(0, 1), (1, 1)]) (by kernel_rfl) rfl (by kernel_rfl) rfl rfl rfl) rfl) ?_)); (conv => (arg 9; try tactic => exact nrmF)); (conv => (arg 11; try simp only [List.nil_append, List.cons_append])))
      | ((first | ((with_reducible refine AF.k_call ?_); first | refine AF.al rfl (SW.w (by first | exact OW.append (n := 0) (b := 1) (bx := 0) (k := L.length + 1) (z := 2) (by' := 16) (zs := [.int .i64 0, .int .i64 0]) (e := 44) rfl rfl (by kernel_rfl) (by kernel_rfl) (by kernel_rfl) rfl (by kernel_rfl) (by omega) rfl rfl rfl (by decide) (by simp) (hld _) hone (by omega) (by omega) | exact OW.append (n := L.length + 1) (b := 2) (bx := 3) (k := 1) (z := 2) (by' := 16) (zs := [.int .i64 0, .int .i64 0]) (e := 44) rfl rfl (by kernel_rfl) (by kernel_rfl) (by kernel_rfl) rfl (by kernel_rfl) (by decide) rfl rfl rfl (by decide) (le_snoc L _ _) rfl rfl (by omega) (by omega)) rfl) rfl ?_ | refine AF.n1 2 (SW.w (by first | exact OW.append (n := 0) (b := 1) (bx := 0) (k := L.length + 1) (z := 2) (by' := 16) (zs := [.int .i64 0, .int .i64 0]) (e := 44) rfl rfl (by kernel_rfl) (by kernel_rfl) (by kernel_rfl) rfl (by kernel_rfl) (by omega) rfl rfl rfl (by decide) (by simp) (hld _) hone (by omega) (by omega) | exact OW.append (n := L.length + 1) (b := 2) (bx := 3) (k := 1) (z := 2) (by' := 16) (zs := [.int .i64 0, .int .i64 0]) (e := 44) rfl rfl (by kernel_rfl) (by kernel_rfl) (by kernel_rfl) rfl (by kernel_rfl) (by decide) rfl rfl rfl (by decide) (le_snoc L _ _) rfl rfl (by omega) (by omega)) rfl) rfl ?_) | ((with_reducible refine AF.k_buildSlice ?_); first | refine AF.n1 0 (SW.w (OW.buildSl0 (ty := 29) (z := (none, 2, true)) (by kernel_rfl)) rfl) rfl ?_ | refine AF.n1 0 (SW.w (OW.buildSl (ty := 29) (zs := [.int .i64 0, .int .i64 0]) (n := 2) (g := true) (by kernel_rfl) (by kernel_rfl) rfl rfl rfl (by decide) (by decide) rfl rfl) rfl) rfl ?_)); (conv => (arg 9; try tactic => exact nrmF)); (conv => (arg 11; try simp only [List.nil_append, List.cons_append])); (conv => (arg 10; try tactic => exact nrmF)))
      | (refine AF.nil ?_ (by kernel_rfl); (conv => (arg 4; simp only [List.drop_succ_cons, List.drop_zero, List.drop_nil]))))
    | ((with_reducible refine FinA.on ?_); (refine FinA.keep 1 [4] (.inl rfl) (.tmp (by conv => lhs; whnf) .nil) ?_ rfl (Nat.le_of_eq hE) rfl rfl ⟨⟨_, rfl, rfl, rfl, .inl ⟨rfl, sc_snoc L a b⟩⟩, ⟨_, rfl, rfl, rfl, .inl ⟨htk _ _, sc2 L a b t⟩⟩, trivial⟩; rfl)))

/-- A single range lengthened. -/
theorem grown_one (a b t : Int) (hb : b = t - 1) (ht : -1000000000000 ≤ t ∧ t ≤ 1000000000000) :
    ACalls Try.prog 82 [.slice (some ⟨0, 0, none⟩) 1 INF, .int .i64 t] [some ⟨[.int .i64 a, .int .i64 b], false, 2⟩] (.slice (some ⟨1, 0, none⟩) 1 INF) [some ⟨[.int .i64 a, .int .i64 b], false, 2⟩, some ⟨[.int .i64 a, .int .i64 t], true, 2⟩] := by
  refine ACalls.enter (t := [.slice (some ⟨0, 0, none⟩) 1 INF, .int .i64 t, undef, undef, undef, undef, undef, undef, undef, undef, undef, undef, undef, undef, undef, undef, undef, undef, undef, undef, undef, undef, undef, undef, undef, undef, undef, undef, undef, undef, undef, undef, undef, undef, undef, undef, undef, undef, undef, undef, undef, undef, undef, undef, undef]) Try.func82 rfl rfl fun E hE => ?_
  repeat' (first
    | with_reducible refine Then.n ?_
    | with_reducible refine Then.r ?_
    | with_reducible refine Then.x ?_
    | with_reducible refine InB.n ?_
    | with_reducible refine InB.r ?_
    | with_reducible refine InB.hit ?_
    | with_reducible refine InB.miss (by decide) ?_
    | ((with_reducible refine AL.on ?_); first
      | (refine AL.gd rfl ?_; first | (refine AL.gskip rfl rfl ?_; (conv => (arg 5; try tactic => exact nrm))) | (refine AL.gs1 rfl rfl (fun hc => ?_) (fun hc => ?_) <;> (try simp only [decide_eq_true_eq, decide_eq_false_iff_not, Bool.not_true, Bool.not_false, Bool.not_eq_true', Bool.not_eq_false', Int.not_lt, Int.not_le, Classical.not_not, ne_eq] at hc) <;> first | (exfalso; first | contradiction | (first | omega | (simp_all; done)); done) | (conv => (arg 5; try tactic => exact nrm))) | (refine AL.gs0 rfl rfl (fun hc => ?_) (fun hc => ?_) <;> (try simp only [decide_eq_true_eq, decide_eq_false_iff_not, Bool.not_true, Bool.not_false, Bool.not_eq_true', Bool.not_eq_false', Int.not_lt, Int.not_le, Classical.not_not, ne_eq] at hc) <;> first | (exfalso; first | contradiction | (first | omega | (simp_all; done)); done) | (conv => (arg 5; try tactic => exact nrm))))
      | ((first | ((with_reducible refine AL.k_move ?_); first | (refine AL.q rfl (OQ.move (by conv => lhs; whnf)) ?_)) | ((with_reducible refine AL.k_binOp ?_); first | refine AL.q rfl (OQ.gtr rfl rfl) ?_ | refine AL.q rfl (OQ.subi rfl rfl (by omega)) ?_ | refine AL.q rfl (OQ.sub rfl rfl) ?_ | refine AL.q rfl (OQ.eql rfl rfl) ?_) | ((with_reducible refine AL.k_call ?_); first | refine AL.q rfl (OQ.lenS (xt := 29) (r := (none, 2, true)) rfl (by kernel_rfl)) ?_) | ((with_reducible refine AL.k_assign ?_); first | (refine AL.q rfl (OQ.assign (by conv => lhs; whnf)) ?_)) | ((with_reducible refine AL.k_indexAddr ?_); first | refine AL.q rfl (OQ.idxAddr (ty := 29) (z := 2) (g := true) rfl rfl (by kernel_rfl) (by omega) (by omega)) ?_) | ((with_reducible refine AL.k_fieldAddr ?_); first | refine AL.q rfl (OQ.fieldA (ty := 44) (i := 1) (n := 1) (off := 1) (g := false) rfl (by kernel_rfl) (by decide)) ?_) | ((with_reducible refine AL.k_load ?_); first | (refine AL.q rfl (OQ.load1 (ty := 3) rfl (by kernel_rfl) (by conv => lhs; whnf)) ?_)) | ((with_reducible refine AL.k_pick ?_); first | (refine AL.q rfl (OQ.pickT rfl (by with_reducible rfl) (by conv => lhs; whnf)) ?_) | (refine AL.q rfl (OQ.pickF rfl (by with_reducible rfl) (by conv => lhs; whnf)) ?_))); (conv => (arg 5; try tactic => exact nrm)))
      | ((first | first | refine AL.q rfl (OQ.buildS (ty := 44) (zs := [.int .i64 0, .int .i64 0]) (pls := [(0, 1), (1, 1)]) (by kernel_rfl) rfl (by kernel_rfl) rfl rfl rfl) ?_); (conv => (arg 5; try tactic => exact nrm)))
      | ((first | ((with_reducible refine AL.k_call ?_); first | refine AL.q rfl (OQ.append0 (v := undef) (z := 2) (e := 44) rfl rfl (by kernel_rfl) (by kernel_rfl)) ?_ | refine AL.w rfl (OW.append (n := 0) (b := 1) (bx := 2) (k := 1) (z := 2) (by' := 16) (zs := [.int .i64 0, .int .i64 0]) (e := 44) rfl rfl (by kernel_rfl) (by kernel_rfl) (by kernel_rfl) rfl (by kernel_rfl) (by decide) rfl rfl rfl (by decide) (Nat.le_refl _) rfl rfl (by decide) (by decide)) ?_) | ((with_reducible refine AL.k_buildSlice ?_); first | refine AL.w rfl (OW.buildSl0 (ty := 29) (z := (none, 2, true)) (by kernel_rfl)) ?_ | refine AL.w rfl (OW.buildSl (ty := 29) (zs := [.int .i64 0, .int .i64 0]) (n := 2) (g := true) (by kernel_rfl) (by kernel_rfl) rfl rfl rfl (by decide) (by decide) rfl rfl) ?_)); (conv => (arg 5; try tactic => exact nrm)); (conv => (arg 6; try tactic => exact nrm)))
      | (refine AL.bs rfl (fun hc => ?_) (fun hc => ?_) <;> (fail_if_success (with_reducible exact lit_no hc)) <;> (try simp only [decide_eq_true_eq, decide_eq_false_iff_not, Bool.not_true, Bool.not_false, Bool.not_eq_true', Bool.not_eq_false', Int.not_lt, Int.not_le, Classical.not_not, ne_eq] at hc) <;> first | (exfalso; first | contradiction | (first | omega | (simp_all; done)); done) | (conv => (arg 5; try tactic => exact nrm)))
      | refine AL.nil ?_)
    | ((with_reducible refine AW.on ?_); first
      | refine AW.seq ?_
      | refine AW.skip ?_
      | refine AW.exit ?_
      | refine AW.ret ?_
      | refine AW.block ?_
      | (refine AW.drawF (id := 3) 15 #[0, 0, 0, 4, 14, 31, 0, 0, 128, 448, 960, 1984, 0, 8128, 16320, 32767, 65535] (by kernel_rfl) (by kernel_rfl) ?_; (conv => (arg 8; simp only [List.take_succ_cons, List.take_zero])))
      | (refine AW.region (id := 4) ?_; exfalso; first | omega | (simp_all; done); done)
      | refine AW.region ?_
      | (refine AW.conds rfl (fun hc => ?_) (fun hc => ?_) <;> (try simp only [decide_eq_true_eq, decide_eq_false_iff_not, Bool.not_true, Bool.not_false, Bool.not_eq_true', Bool.not_eq_false', Int.not_lt, Int.not_le, Classical.not_not, ne_eq] at hc) <;> first | (exfalso; first | contradiction | (first | omega | (simp_all; done)); done) | skip))
    | ((with_reducible refine AF.on ?_); first
      | ((first | ((with_reducible refine AF.k_move ?_); first | (refine AF.q 0 (SW.q (OQ.move (by conv => lhs; whnf)) rfl) ?_)) | ((with_reducible refine AF.k_binOp ?_); first | refine AF.q 0 (SW.q (OQ.subi rfl rfl (by omega)) rfl) ?_ | refine AF.q 0 (SW.q (OQ.sub rfl rfl) rfl) ?_) | ((with_reducible refine AF.k_indexAddr ?_); first | refine AF.q 0 (SW.q (OQ.idxAddr (ty := 29) (z := 2) (g := true) rfl rfl (by kernel_rfl) (by omega) (by omega)) rfl) ?_) | ((with_reducible refine AF.k_fieldAddr ?_); first | refine AF.q 0 (SW.q (OQ.fieldA (ty := 44) (i := 0) (n := 1) (off := 0) (g := false) rfl (by kernel_rfl) (by decide)) rfl) ?_) | ((with_reducible refine AF.k_load ?_); first | (refine AF.ql rfl (SW.q (OQ.load1 (ty := 3) rfl (by kernel_rfl) (by conv => lhs; whnf)) rfl) ?_)) | ((with_reducible refine AF.k_build ?_); first | refine AF.q 0 (SW.q (OQ.buildS (ty := 44) (zs := [.int .i64 0, .int .i64 0]) (pls := [(0, 1), (1, 1)]) (by kernel_rfl) rfl (by kernel_rfl) rfl rfl rfl) rfl) ?_) | refine AF.q 2 (SW.q (OQ.sliceS (ty := 29) (l := 0) (h := 0) (z := 2) (g := true) rfl (by kernel_rfl) rfl (.inr rfl) rfl rfl (by decide) (by decide) (by decide)) rfl) ?_); (conv => (arg 9; try tactic => exact nrmF)); (conv => (arg 11; try simp only [List.nil_append, List.cons_append])))
      | ((first | ((with_reducible refine AF.k_call ?_); first | refine AF.al rfl (SW.w (OW.append (n := 0) (b := 1) (bx := 2) (k := 1) (z := 2) (by' := 16) (zs := [.int .i64 0, .int .i64 0]) (e := 44) rfl rfl (by kernel_rfl) (by kernel_rfl) (by kernel_rfl) rfl (by kernel_rfl) (by decide) rfl rfl rfl (by decide) (Nat.le_refl _) rfl rfl (by decide) (by decide)) rfl) rfl ?_ | refine AF.q 2 (SW.q (OQ.append0 (v := undef) (z := 2) (e := 44) rfl rfl (by kernel_rfl) (by kernel_rfl)) rfl) ?_ | refine AF.n1 2 (SW.w (OW.append (n := 0) (b := 1) (bx := 2) (k := 1) (z := 2) (by' := 16) (zs := [.int .i64 0, .int .i64 0]) (e := 44) rfl rfl (by kernel_rfl) (by kernel_rfl) (by kernel_rfl) rfl (by kernel_rfl) (by decide) rfl rfl rfl (by decide) (Nat.le_refl _) rfl rfl (by decide) (by decide)) rfl) rfl ?_) | ((with_reducible refine AF.k_buildSlice ?_); first | refine AF.n1 0 (SW.w (OW.buildSl0 (ty := 29) (z := (none, 2, true)) (by kernel_rfl)) rfl) rfl ?_ | refine AF.n1 0 (SW.w (OW.buildSl (ty := 29) (zs := [.int .i64 0, .int .i64 0]) (n := 2) (g := true) (by kernel_rfl) (by kernel_rfl) rfl rfl rfl (by decide) (by decide) rfl rfl) rfl) rfl ?_)); (conv => (arg 9; try tactic => exact nrmF)); (conv => (arg 11; try simp only [List.nil_append, List.cons_append])); (conv => (arg 10; try tactic => exact nrmF)))
      | (refine AF.nil ?_ (by kernel_rfl); (conv => (arg 4; simp only [List.drop_succ_cons, List.drop_zero, List.drop_nil]))))
    | ((with_reducible refine FinA.on ?_); (refine FinA.keep 1 [3] (.inl rfl) (.tmp (by conv => lhs; whnf) .nil) ?_ rfl (Nat.le_of_eq hE) rfl rfl ⟨⟨_, rfl, rfl, rfl, .inl ⟨rfl, rfl⟩⟩, ⟨_, rfl, rfl, rfl, .inl ⟨rfl, rfl⟩⟩, trivial⟩; rfl)))

/-- The last range lengthened. -/
theorem grown_more (L : List (Int × Int)) (a b t : Int) (h0 : 0 < L.length) (hb : b = t - 1) (hL : L.length ≤ 100000) (ht : -1000000000000 ≤ t ∧ t ≤ 1000000000000) :
    ACalls Try.prog 82 [.slice (some ⟨0, 0, none⟩) (L.length + 1) INF, .int .i64 t] [some ⟨flatR L ++ [.int .i64 a, .int .i64 b], false, 2⟩] (.slice (some ⟨1, 0, none⟩) (L.length + 1) INF) [some ⟨flatR L ++ [.int .i64 a, .int .i64 b], false, 2⟩, some ⟨flatR L ++ [.int .i64 a, .int .i64 t], true, 2⟩] := by
  have hg := get_last (n := L.length) (.int .i64 a) (.int .i64 b) (flatR_len L)
  have hg0 := get_last0 (n := L.length) (.int .i64 a) (.int .i64 b) (flatR_len L)
  have hld : ∀ m : Mem, Mem.ld (some ⟨flatR L ++ [.int .i64 a, .int .i64 b], false, 2⟩ :: m) 0 0 ((L.length - 0) * 2) = some (flatR L) := fun m => by
    have := flatR_len L
    simp only [Mem.ld, Mem.at, List.getD_cons_zero, Option.bind]
    rw [if_pos (by simp [flatR_len]), List.drop_zero, Nat.sub_zero, List.take_append_of_le_length (by omega), tk_all this]
  have hone := one_of_scal (flatR_scal L)
  have htk : ∀ u v : Value, flatR L ++ [u, v] = List.take ((L.length - 0) * 2) (flatR L) ++ [u, v] := fun u v => by
    rw [tk_all (by rw [flatR_len]; omega)]
  refine ACalls.enter (t := [.slice (some ⟨0, 0, none⟩) (L.length + 1) INF, .int .i64 t, undef, undef, undef, undef, undef, undef, undef, undef, undef, undef, undef, undef, undef, undef, undef, undef, undef, undef, undef, undef, undef, undef, undef, undef, undef, undef, undef, undef, undef, undef, undef, undef, undef, undef, undef, undef, undef, undef, undef, undef, undef, undef, undef]) Try.func82 rfl rfl fun E hE => ?_
  repeat' (first
    | with_reducible refine Then.n ?_
    | with_reducible refine Then.r ?_
    | with_reducible refine Then.x ?_
    | with_reducible refine InB.n ?_
    | with_reducible refine InB.r ?_
    | with_reducible refine InB.hit ?_
    | with_reducible refine InB.miss (by decide) ?_
    | ((with_reducible refine AL.on ?_); first
      | (refine AL.gd rfl ?_; first | (refine AL.gskip rfl rfl ?_; (conv => (arg 5; try tactic => exact nrm))) | (refine AL.gs1 rfl rfl (fun hc => ?_) (fun hc => ?_) <;> (try simp only [decide_eq_true_eq, decide_eq_false_iff_not, Bool.not_true, Bool.not_false, Bool.not_eq_true', Bool.not_eq_false', Int.not_lt, Int.not_le, Classical.not_not, ne_eq] at hc) <;> first | (exfalso; first | contradiction | (omega); done) | (conv => (arg 5; try tactic => exact nrm))) | (refine AL.gs0 rfl rfl (fun hc => ?_) (fun hc => ?_) <;> (try simp only [decide_eq_true_eq, decide_eq_false_iff_not, Bool.not_true, Bool.not_false, Bool.not_eq_true', Bool.not_eq_false', Int.not_lt, Int.not_le, Classical.not_not, ne_eq] at hc) <;> first | (exfalso; first | contradiction | (omega); done) | (conv => (arg 5; try tactic => exact nrm))))
      | ((first | ((with_reducible refine AL.k_move ?_); first | (refine AL.q rfl (OQ.move (by conv => lhs; whnf)) ?_)) | ((with_reducible refine AL.k_binOp ?_); first | refine AL.q rfl (OQ.gtr rfl rfl) ?_ | refine AL.q rfl (OQ.subi rfl rfl (by omega)) ?_ | refine AL.q rfl (OQ.sub rfl rfl) ?_ | refine AL.q rfl (OQ.eql rfl rfl) ?_) | ((with_reducible refine AL.k_call ?_); first | refine AL.q rfl (OQ.lenS (xt := 29) (r := (none, 2, true)) rfl (by kernel_rfl)) ?_) | ((with_reducible refine AL.k_assign ?_); first | (refine AL.q rfl (OQ.assign (by conv => lhs; whnf)) ?_)) | ((with_reducible refine AL.k_load ?_); first | (refine AL.q rfl (OQ.load1 (ty := 3) rfl (by kernel_rfl) (by first | (first | exact hg | exact hg0) | (conv => lhs; whnf))) ?_)) | ((with_reducible refine AL.k_pick ?_); first | (refine AL.q rfl (OQ.pickT rfl (by with_reducible rfl) (by conv => lhs; whnf)) ?_) | (refine AL.q rfl (OQ.pickF rfl (by with_reducible rfl) (by conv => lhs; whnf)) ?_))); (conv => (arg 5; try tactic => exact nrm)))
      | ((first | ((with_reducible refine AL.k_indexAddr ?_); first | refine AL.q rfl (OQ.idxAddr (ty := 29) (z := 2) (g := true) rfl rfl (by kernel_rfl) (by omega) (by omega)) ?_) | ((with_reducible refine AL.k_fieldAddr ?_); first | refine AL.q rfl (OQ.fieldA (ty := 44) (i := 1) (n := 1) (off := 1) (g := false) rfl (by kernel_rfl) (by decide)) ?_) | ((with_reducible refine AL.k_build ?_); first | refine AL.q rfl (OQ.buildS (ty := 44) (zs := [.int .i64 0, .int .i64 0]) (pls := [(0, 1), (1, 1)]) (by kernel_rfl) rfl (by kernel_rfl) rfl rfl rfl) ?_)); (conv => (arg 5; try tactic => exact nrm)))
      | ((first | ((with_reducible refine AL.k_call ?_); first | (refine AL.w rfl (by first | exact OW.append (n := 0) (b := 1) (bx := 0) (k := L.length - 0) (z := 2) (by' := 16) (zs := [.int .i64 0, .int .i64 0]) (e := 44) rfl rfl (by kernel_rfl) (by kernel_rfl) (by kernel_rfl) rfl (by kernel_rfl) (by omega) rfl rfl rfl (by decide) (Nat.le_refl _) (hld _) hone (by omega) (by omega) | exact OW.append (n := L.length - 0) (b := 2) (bx := 3) (k := 1) (z := 2) (by' := 16) (zs := [.int .i64 0, .int .i64 0]) (e := 44) rfl rfl (by kernel_rfl) (by kernel_rfl) (by kernel_rfl) rfl (by kernel_rfl) (by decide) rfl rfl rfl (by decide) (by rw [flatR_len]; omega) rfl rfl (by omega) (by omega)) ?_)) | ((with_reducible refine AL.k_buildSlice ?_); first | refine AL.w rfl (OW.buildSl0 (ty := 29) (z := (none, 2, true)) (by kernel_rfl)) ?_ | refine AL.w rfl (OW.buildSl (ty := 29) (zs := [.int .i64 0, .int .i64 0]) (n := 2) (g := true) (by kernel_rfl) (by kernel_rfl) rfl rfl rfl (by decide) (by decide) rfl rfl) ?_)); (conv => (arg 5; try tactic => exact nrm)); (conv => (arg 6; try tactic => exact nrm)))
      | (refine AL.bs rfl (fun hc => ?_) (fun hc => ?_) <;> (fail_if_success (with_reducible exact lit_no hc)) <;> (try simp only [decide_eq_true_eq, decide_eq_false_iff_not, Bool.not_true, Bool.not_false, Bool.not_eq_true', Bool.not_eq_false', Int.not_lt, Int.not_le, Classical.not_not, ne_eq] at hc) <;> first | (exfalso; first | contradiction | (omega); done) | (conv => (arg 5; try tactic => exact nrm)))
      | refine AL.nil ?_)
    | ((with_reducible refine AW.on ?_); first
      | refine AW.seq ?_
      | refine AW.skip ?_
      | refine AW.exit ?_
      | refine AW.ret ?_
      | refine AW.block ?_
      | (refine AW.drawF (id := 3) 15 #[0, 0, 0, 4, 14, 31, 0, 0, 128, 448, 960, 1984, 0, 8128, 16320, 32767, 65535] (by kernel_rfl) (by kernel_rfl) ?_; (conv => (arg 8; simp only [List.take_succ_cons, List.take_zero])))
      | (refine AW.region (id := 4) ?_; exfalso; omega; done)
      | refine AW.region ?_
      | (refine AW.conds rfl (fun hc => ?_) (fun hc => ?_) <;> (try simp only [decide_eq_true_eq, decide_eq_false_iff_not, Bool.not_true, Bool.not_false, Bool.not_eq_true', Bool.not_eq_false', Int.not_lt, Int.not_le, Classical.not_not, ne_eq] at hc) <;> first | (exfalso; first | contradiction | (omega); done) | skip))
    | ((with_reducible refine AF.on ?_); first
      | ((first | ((with_reducible refine AF.k_move ?_); first | (refine AF.q 0 (SW.q (OQ.move (by conv => lhs; whnf)) rfl) ?_)) | ((with_reducible refine AF.k_binOp ?_); first | refine AF.q 0 (SW.q (OQ.subi rfl rfl (by omega)) rfl) ?_ | refine AF.q 0 (SW.q (OQ.sub rfl rfl) rfl) ?_) | ((with_reducible refine AF.k_indexAddr ?_); first | refine AF.q 0 (SW.q (OQ.idxAddr (ty := 29) (z := 2) (g := true) rfl rfl (by kernel_rfl) (by omega) (by omega)) rfl) ?_) | ((with_reducible refine AF.k_fieldAddr ?_); first | refine AF.q 0 (SW.q (OQ.fieldA (ty := 44) (i := 0) (n := 1) (off := 0) (g := false) rfl (by kernel_rfl) (by decide)) rfl) ?_) | ((with_reducible refine AF.k_load ?_); first | (refine AF.ql rfl (SW.q (OQ.load1 (ty := 3) rfl (by kernel_rfl) (by first | (first | exact hg | exact hg0) | (conv => lhs; whnf))) rfl) ?_)) | ((with_reducible refine AF.k_build ?_); first | refine AF.q 0 (SW.q (OQ.buildS (ty := 44) (zs := [.int .i64 0, .int .i64 0]) (pls := [(0, 1), (1, 1)]) (by kernel_rfl) rfl (by kernel_rfl) rfl rfl rfl) rfl) ?_) | refine AF.q 2 (SW.q (OQ.sliceS (ty := 29) (l := 0) (h := (L.length : Int)) (z := 2) (g := true) rfl (by kernel_rfl) rfl (.inr rfl) rfl (by exact congrArg some (by omega)) (by decide) (by omega) (by omega)) rfl) ?_); (conv => (arg 9; try tactic => exact nrmF)); (conv => (arg 11; try simp only [List.nil_append, List.cons_append])))
      | ((first | ((with_reducible refine AF.k_call ?_); first | (refine AF.al rfl (SW.w (by first | exact OW.append (n := 0) (b := 1) (bx := 0) (k := L.length - 0) (z := 2) (by' := 16) (zs := [.int .i64 0, .int .i64 0]) (e := 44) rfl rfl (by kernel_rfl) (by kernel_rfl) (by kernel_rfl) rfl (by kernel_rfl) (by omega) rfl rfl rfl (by decide) (Nat.le_refl _) (hld _) hone (by omega) (by omega) | exact OW.append (n := L.length - 0) (b := 2) (bx := 3) (k := 1) (z := 2) (by' := 16) (zs := [.int .i64 0, .int .i64 0]) (e := 44) rfl rfl (by kernel_rfl) (by kernel_rfl) (by kernel_rfl) rfl (by kernel_rfl) (by decide) rfl rfl rfl (by decide) (by rw [flatR_len]; omega) rfl rfl (by omega) (by omega)) rfl) rfl ?_) | (refine AF.n1 2 (SW.w (by first | exact OW.append (n := 0) (b := 1) (bx := 0) (k := L.length - 0) (z := 2) (by' := 16) (zs := [.int .i64 0, .int .i64 0]) (e := 44) rfl rfl (by kernel_rfl) (by kernel_rfl) (by kernel_rfl) rfl (by kernel_rfl) (by omega) rfl rfl rfl (by decide) (Nat.le_refl _) (hld _) hone (by omega) (by omega) | exact OW.append (n := L.length - 0) (b := 2) (bx := 3) (k := 1) (z := 2) (by' := 16) (zs := [.int .i64 0, .int .i64 0]) (e := 44) rfl rfl (by kernel_rfl) (by kernel_rfl) (by kernel_rfl) rfl (by kernel_rfl) (by decide) rfl rfl rfl (by decide) (by rw [flatR_len]; omega) rfl rfl (by omega) (by omega)) rfl) rfl ?_)) | ((with_reducible refine AF.k_buildSlice ?_); first | refine AF.n1 0 (SW.w (OW.buildSl0 (ty := 29) (z := (none, 2, true)) (by kernel_rfl)) rfl) rfl ?_ | refine AF.n1 0 (SW.w (OW.buildSl (ty := 29) (zs := [.int .i64 0, .int .i64 0]) (n := 2) (g := true) (by kernel_rfl) (by kernel_rfl) rfl rfl rfl (by decide) (by decide) rfl rfl) rfl) rfl ?_)); (conv => (arg 9; try tactic => exact nrmF)); (conv => (arg 11; try simp only [List.nil_append, List.cons_append])); (conv => (arg 10; try tactic => exact nrmF)))
      | (refine AF.nil ?_ (by kernel_rfl); (conv => (arg 4; simp only [List.drop_succ_cons, List.drop_zero, List.drop_nil]))))
    | ((with_reducible refine FinA.on ?_); (refine FinA.keep 1 [4] (.inl rfl) (.tmp (by conv => lhs; whnf) .nil) ?_ rfl (Nat.le_of_eq hE) rfl rfl ⟨⟨_, rfl, rfl, rfl, .inl ⟨rfl, sc_snoc L a b⟩⟩, ⟨_, rfl, rfl, rfl, .inl ⟨htk _ _, sc_snoc L a t⟩⟩, trivial⟩; rfl)))

theorem rg_lies {m : Mem} {b : Nat} {L : List (Int × Int)} {cs : List Value} (hb : m.at b = rgB L) (hL : L ≠ []) (hcs : cs = flatR L) : Lies [some ⟨cs, false, 2⟩] m (fun _ => b) := fun x bk hx => by
  have := Mem.at_lt hx
  simp at this
  subst this
  simp [Mem.at] at hx
  subst hx
  subst hcs
  have hs := flatR_scal L
  refine ⟨rfl, ok1_of_scal hs, ⟨flatR L, true, 2⟩, by rw [hb]; exact if_neg hL, rfl, fun i v hv => ?_⟩
  rw [rn1_scal (List.all_eq_true.1 hs v (List.mem_of_getElem? hv))]
  exact hv
theorem here1 {b : Blk} : ∀ x, x < List.length [some b] → ∃ blk, Mem.at [some b] x = some blk := fun x hx => by
  simp at hx
  subst hx
  exact ⟨_, rfl⟩

/-- One tick more. -/
theorem grown_q {m : Mem} {b : Nat} (L : List (Int × Int)) (t : Int) (hb : m.at b = rgB L) (hL : L.length ≤ 100000) (ht : -1000000000000 ≤ t ∧ t ≤ 1000000000000) :
    ACalls Try.prog 82 [rgV b L, .int .i64 t] m (rgV m.length (grow L t)) (m ++ [rgB (grow L t)]) := by
  rcases List.eq_nil_or_concat L with h | ⟨L0, ⟨r1, r2⟩, h⟩
  · subst h
    exact ACalls.viaN (m0 := []) (x := some ⟨[.int .i64 t, .int .i64 t], true, 2⟩) (fun _ => 0) (grown_nil t) (fun x bk hx => by simp [Mem.at] at hx) (fun x hx => absurd hx (by simp)) (fun blk h => by cases h; exact ⟨rfl, rfl⟩) rfl rfl (by simp [rn3, rn2, rn1, τn, rgV, grow]) rfl
  · rw [List.concat_eq_append] at h
    subst h
    simp only [List.length_append, List.length_cons, List.length_nil, Nat.zero_add] at hL
    have hne : L0 ++ [(r1, r2)] ≠ [] := by simp
    by_cases e : r2 = t - 1
    · rw [grow_last _ _ _ _ e, rgV_snoc, rgV_snoc, rgB_snoc]
      rcases L0 with _ | ⟨q, L1⟩
      · exact ACalls.viaN (fun _ => b) (grown_one r1 r2 t e ht) (rg_lies hb hne rfl) here1 (fun blk h => by cases h; exact ⟨rfl, rfl⟩) rfl rfl (by simp [rn3, rn2, rn1, τn]) rfl
      · exact ACalls.viaN (fun _ => b) (grown_more (q :: L1) r1 r2 t (by simp) e (by omega) ht) (rg_lies hb hne (flatR_snoc (q :: L1) (r1, r2)).symm) here1 (fun blk h => by cases h; exact ⟨rfl, sc_snoc _ _ _⟩) rfl rfl (by simp [rn3, rn2, rn1, τn]) rfl
    · rw [grow_new _ _ _ _ e, rgV_snoc, rgV_snoc, rgB_snoc, flatR_snoc]
      have := ACalls.viaN (fun _ => b) (grown_new L0 r1 r2 t e (by omega) ht) (rg_lies hb hne (flatR_snoc L0 (r1, r2)).symm) here1 (fun blk h => by cases h; exact ⟨rfl, sc2 _ _ _ _⟩) rfl rfl rfl rfl
      simpa [rn3, rn2, rn1, τn] using this
end Go.Proofs.Ythpjhpfebjjanaa
end

section
namespace Go.Proofs.Ythpjhpfebjjanaa
open Go Go.RowKit Go.Ob Go.Ab
set_option maxRecDepth 100000
set_option maxHeartbeats 1000000

theorem rg_real {ρ : Ren} {m : Mem} {w : World} {b : Nat} {L : List (Int × Int)} {v' : Value} (hb : m.at b = rgB L) (hm : MRel ρ m w) (hv : VRel ρ (rgV b L) v') :
    ∃ a cap, v' = .slice a L.length cap ∧ SlRgs w a L := by
  by_cases hL : L = []
  · subst hL
    exact ⟨none, 0, hv.nil_inv, ⟨fun h => absurd rfl h⟩⟩
  · unfold rgV at hv
    rw [if_neg hL] at hv
    have hb' : m.at b = some ⟨flatR L, true, 2⟩ := by rw [hb]; exact if_neg hL
    have hp : 0 < L.length := List.length_pos_iff.2 hL
    rcases hv.slice_inv with ⟨pl, c', hp', g1, _, _, rfl⟩ | ⟨h0, _⟩
    case inr => omega
    refine ⟨_, c', rfl, ⟨fun _ => ?_⟩⟩
    obtain ⟨pl', hp2, ⟨c, ty, fr, k0, _, k2, k3⟩, _⟩ := hm b _ hb'
    cases Option.some.inj (hp'.symm.trans hp2)
    obtain ⟨_, _, rfl⟩ := k3 rfl
    refine ⟨pl.blk, 0 + pl.sh, rfl, (Array.getElem?_eq_some_iff.1 k0).1, fun k hk => ?_⟩
    have g : ∀ j, j < 2 → w.cell? ⟨pl.blk, 0 + pl.sh + (k * 2 + j), none⟩ = (rgC (rg_ L k))[j]? := fun j hj => by
      have hg := flatR_get L k j hj hk
      have hl : j < (rgC (rg_ L k)).length := hj
      rw [List.getElem?_eq_getElem hl] at hg ⊢
      obtain ⟨v', q1, q2⟩ := k2 _ _ hg
      have hsc := List.all_eq_true.1 (flatR_scal L) _ (List.mem_of_getElem? hg)
      rw [q2.of_scal hsc] at q1
      rw [Free.cell_of_blk k0, ← q1]
      congr 1
      omega
    exact ⟨g 0 (by omega), by rw [Nat.add_assoc]; exact g 1 (by omega)⟩

theorem Ranges_q {m : Mem} {b c : Nat} {L M : List (Int × Int)} (hb : m.at b = rgB L) (hc : m.at c = rgB M) (hl : L.length ≤ 100000) (hl' : M.length ≤ 100000) :
    PCalls Try.prog 23 [rgV b L, rgV c M] m (.bool (decide (L = M))) := by
  intro ρ args' w hdom hargs hm
  obtain ⟨xs', e, h1, hg⟩ := hargs.tuple_inv
  cases e
  obtain ⟨u, e0, r0⟩ := hg 0 _ rfl
  obtain ⟨v, e1, r1⟩ := hg 1 _ rfl
  obtain ⟨a, cap, rfl, hA⟩ := rg_real hb hm r0
  obtain ⟨a', cap', rfl, hA'⟩ := rg_real hc hm r1
  have : args' = #[.slice a L.length cap, .slice a' M.length cap'] := by
    refine Array.ext_getElem? fun i => ?_
    match i with
    | 0 => exact e0
    | 1 => exact e1
    | i + 2 => rw [Array.getElem?_eq_none (by simp at h1; omega), Array.getElem?_eq_none (by simp)]
  subst this
  exact (Ranges_any a a' cap cap' L M w hA hA' hl hl').mono fun e w' ⟨he, hbl⟩ => ⟨_, he, .scal rfl, hbl⟩

section
attribute [local irreducible] OQ OW AL AW AD AF SW
end
end Go.Proofs.Ythpjhpfebjjanaa
end
