/- TopCorrectionTouches: plain law and walks of the statement. -/
/- TopCorrectionTouches: the walks that read and write texts. -/
import Derived.Test.YthhhkjbhhjcjoaaGreatDoor02Co
import Derived.Test.YthhhkjbhhjcjoaaGreatDoor02tw
import Derived.Test.YthhhkjbhhjcjoaaGreatDoor02H
import Derived.Test.YthhhkjbhhjcjoaaGreatDoor02pa
set_option linter.unusedSimpArgs false
set_option linter.unusedVariables false
section
section
namespace Go.Proofs.YthhhkjbhhjcjoaaGreatDoor
open Go Go.Ob Go.Ab
set_option maxRecDepth 100000
/-- Where a test says yes, there is a run. -/
theorem run_has (T : Int → Bool) (a : Int) : ∀ (k : Nat) (t : Int), a ≤ t → t < a + k → T t = true → ∃ r ∈ runTo T a k, r.1 ≤ t ∧ t ≤ r.2
  | 0, t, h0, h1, _ => absurd h1 (by simp; omega)
  | k + 1, t, h0, h1, hT => by
    by_cases ht : t < a + k
    · obtain ⟨r, hr, h2, h3⟩ := run_has T a k t h0 ht hT
      cases hk : T (a + k) with
      | false => rw [runTo_no hk]; exact ⟨r, hr, h2, h3⟩
      | true =>
        rw [runTo_yes hk]
        rcases List.eq_nil_or_concat (runTo T a k) with e | ⟨L, ⟨x, y⟩, e⟩
        · rw [e] at hr
          cases hr
        · rw [List.concat_eq_append] at e
          rw [e] at hr ⊢
          by_cases hy : y = a + k - 1
          · rw [grow_last _ _ _ _ hy]
            rcases List.mem_append.1 hr with h | h
            · exact ⟨r, List.mem_append_left _ h, h2, h3⟩
            · simp only [List.mem_singleton] at h
              subst h
              exact ⟨(x, a + k), by simp, h2, by simp only at h3 ⊢; omega⟩
          · rw [grow_new _ _ _ _ hy]
            exact ⟨r, List.mem_append_left _ hr, h2, h3⟩
    · obtain rfl : t = a + k := by omega
      rw [runTo_yes hT]
      rcases List.eq_nil_or_concat (runTo T a k) with e | ⟨L, ⟨x, y⟩, e⟩
      · rw [e]
        exact ⟨(a + k, a + k), by simp [grow_nil], by simp, by simp⟩
      · rw [List.concat_eq_append] at e
        rw [e]
        by_cases hy : y = a + k - 1
        · rw [grow_last _ _ _ _ hy]
          refine ⟨(x, a + k), by simp, ?_, by simp⟩
          have := run_ends T a k (x, y) (by rw [e]; simp)
          simp only at this ⊢
          omega
        · rw [grow_new _ _ _ _ hy]
          exact ⟨(a + k, a + k), by simp, by simp, by simp⟩
theorem bxN_eq {p q : Bx} (h : bxN p q = false) : p = q := by
  unfold bxN at h
  simp only [Bool.not_eq_false', decide_eq_true_eq, Prod.mk.injEq] at h
  obtain ⟨a, b, c, d, e, f⟩ := h
  cases p
  cases q
  simp_all
def tL (bd : Int) (l a : List St) : List (Int × Int) := tchL (frstT l) (lastT l) (frstT a) (lastT a) (tcD bd bd l a)
theorem tL_swap (bd : Int) (l a : List St) : tL bd l a = tL bd a l := by
  unfold tL
  rw [tchL_comm, tcD_comm]
/-- At a tick that is not touched the boxes are the same. -/
theorem tL_not {bd : Int} {l a : List St} (hl : frstT l ≤ lastT l) {t : Int} (h0 : frstT l ≤ t) (h1 : t ≤ lastT l) (hn : ∀ r ∈ tL bd l a, ¬ (r.1 ≤ t ∧ t ≤ r.2)) : (frstT a ≤ t ∧ t ≤ lastT a) ∧ bx bd l t = bx bd a t := by
  have hT : tch (frstT l) (lastT l) (frstT a) (lastT a) (tcD bd bd l a) t = false := by
    cases h : tch (frstT l) (lastT l) (frstT a) (lastT a) (tcD bd bd l a) t with
    | false => rfl
    | true =>
      obtain ⟨r, hr, h2, h3⟩ := run_has (tch (frstT l) (lastT l) (frstT a) (lastT a) (tcD bd bd l a)) (if frstT a < frstT l then frstT a else frstT l) ((if lastT a < lastT l then lastT l else lastT a) - (if frstT a < frstT l then frstT a else frstT l) + 1).toNat t (by split <;> omega) (by split <;> split <;> omega) h
      exact absurd ⟨h2, h3⟩ (hn r hr)
  unfold tch at hT
  rw [show rngB t (frstT l) (lastT l) = true from rngB_true.2 ⟨h0, h1⟩] at hT
  simp only [Bool.true_and, Bool.or_eq_false_iff, bne_eq_false_iff_eq] at hT
  exact ⟨rngB_true.1 hT.1.symm, bxN_eq hT.2⟩
theorem tL_nil {bd : Int} {l a : List St} (hl : frstT l ≤ lastT l) (ha : frstT a ≤ lastT a) (h : tL bd l a = []) : frstT l ≤ lastT a ∧ frstT a ≤ lastT l := by
  have h1 := tL_not (bd := bd) (l := l) (a := a) hl (t := frstT l) (Int.le_refl _) hl (by rw [h]; simp)
  rw [tL_swap] at h
  have h2 := tL_not (bd := bd) (l := a) (a := l) ha (t := frstT a) (Int.le_refl _) ha (by rw [h]; simp)
  omega
theorem tch_len {a0 a1 b0 b1 : Int} {dd : Int → Bool} (ha : a0 ≤ a1) (h : a0 ≤ b0) (hb : b0 ≤ b1) : (tchL a0 a1 b0 b1 dd).length ≤ (a1 + 1 - a0).toNat + (b1 + 1 - b0).toNat := by
  obtain ⟨s, hs⟩ : ∃ s, s = if b0 < a1 + 1 then a1 + 1 else b0 := ⟨_, rfl⟩
  have h0 : b0 ≤ s := by rw [hs]; split <;> omega
  rw [← touch_ref ha h hb hs]
  have h1 := rf_len (runTo (tch a0 a1 b0 b1 dd) a0 (a1 + 1 - a0).toNat) (fun _ => true) s (b1 + 1 - s).toNat
  have h2 := run_len (tch a0 a1 b0 b1 dd) a0 (a1 + 1 - a0).toNat
  omega
theorem tL_len {bd : Int} {l a : List St} (hl : lastT l - frstT l ≤ 200) (ha : lastT a - frstT a ≤ 200) (h1 : frstT l ≤ lastT l) (h2 : frstT a ≤ lastT a) : (tL bd l a).length ≤ 450 := by
  by_cases h : frstT l ≤ frstT a
  · have := tch_len (dd := tcD bd bd l a) h1 h h2
    unfold tL
    omega
  · have := tch_len (dd := tcD bd bd a l) h2 (show frstT a ≤ frstT l by omega) h1
    rw [tL_swap]
    unfold tL
    omega
end Go.Proofs.YthhhkjbhhjcjoaaGreatDoor
end

section
namespace Go.Proofs.YthhhkjbhhjcjoaaGreatDoor
open Go Go.RowKit Go.Ob Go.Ab Go.Lib Go.Tx
set_option maxRecDepth 100000
set_option maxHeartbeats 4000000
theorem DistanceAtX_q {m : Mem} {v : Value} {l : List St} {nm : ByteArray} {bd : Int} (hS : SlB m v l) (ho : Ors nm l) (t x y z : Int) : PCalls Tryz.prog 28 [obW nm bd v, .int .i64 t, v3 x y z] m (.tuple #[.agg #[.int .i64 (distOr nm.data.toList bd l t x y z).1, .int .i64 (distOr nm.data.toList bd l t x y z).2], .int .i64 (sqE nm.data.toList bd l t x y z)]) :=
  of_sl hS ho rfl rfl fun w a cap hO => DistanceAt_any nm bd t x y z a cap l w hO
theorem chk_p (s : St) (m : Mem) : PCalls Tryz.prog 11 [stV s] m (.int .i64 (stE s)) :=
  PCalls.of_calls rfl rfl fun w => rCheckState_any s w
theorem PCallsW.any {N0 : Nat} {W0 : World} {P : Program} {f : FuncId} {args : List Value} {v : Value} (h : PCallsW N0 W0 P f args [] v) (hk : args.all flat = true) (hv : flat v = true) (m : Mem) : PCallsW N0 W0 P f args m v :=
  PCallsW.of_calls hk hv fun w hW => by
    refine (h (fun _ => none) args.toArray w hW (fun b pl hb => by cases hb) (.tuple (by simp) fun i hi hi' => ?_) (fun b blk hb => by simp [Mem.at] at hb)).mono ?_
    · simp only [List.getElem_toArray]
      exact .flat (List.all_eq_true.1 hk _ (List.getElem_mem _))
    · rintro e w' ⟨v', rfl, hr, hb⟩
      exact ⟨by rw [hr.of_flat hv], hb⟩
section
variable {l a : List St} {nm : ByteArray} {bd : Int} {N0 : Nat} {W0 : World}
attribute [local irreducible] OQ OW AL AW AD AF SW
/-- An orbit that is not brief. -/
theorem TcL_no (k : Int) (s : St) (g : Bool) (hwf : ∀ k, k < l.length → -9223372036854775808 ≤ (at_ l k).t ∧ (at_ l k).t ≤ 9223372036854775807) (hl : (l.length : Int) ≤ 9223372036854775807) (hnm : (nm.size : Int) ≤ 9223372036854775807)
    (hf : (fewB nm.size l.length && briefB nm.data.toList bd l) = false) : PCalls Tryz.prog 5 [obW nm bd (va 0 l g), .int .i64 k, stV s] [bl l] (.bool true) := by
  have H1 := fun (m : Mem) (v : Value) (hS : SlB m v l) => brief_c (bd := bd) hS hwf hl hnm
  rw [hf] at H1
  refine PCalls.enter (t := [obW nm bd (va 0 l g), .int .i64 k, stV s, undef, undef, undef, undef, undef, undef, undef, undef, undef, undef, undef, undef, undef, undef, undef, undef, undef, undef, undef, undef, undef, undef, undef, undef, undef, undef, undef, undef, undef, undef, undef, undef, undef, undef, undef, undef, undef, undef, undef, undef, undef, undef, undef, undef, undef, undef, undef, undef, undef, undef, undef, undef, undef, undef, undef, undef, undef, undef, undef, undef, undef, undef, undef, undef, undef, undef, undef, undef, undef, undef, undef, undef, undef, undef, undef, undef, undef, undef, undef, undef, undef, undef, undef, undef, undef, undef, undef, undef, undef, undef, undef, undef, undef, undef, undef, undef, undef, undef, undef, undef, undef, undef, undef, undef, undef, undef, undef, undef, undef, undef, undef, undef, undef, undef, undef, undef, undef, undef, undef, undef, undef, undef, undef, undef, undef, undef, undef, undef, undef, undef, undef, undef, undef, undef, undef, undef, undef, undef, undef, undef, undef, undef, undef, undef, undef, undef, undef, undef, undef, undef, undef, undef, undef, undef, undef, undef, undef, undef, undef, undef, undef, undef, undef, undef, undef, undef, undef, undef, undef, undef, undef, undef, undef, undef, undef, undef, undef, undef, undef, undef, undef, undef, undef, undef, undef, undef, undef, undef, undef, undef, undef, undef, undef, undef, undef, undef, undef, undef, undef]) Tryz.func5 rfl (ro_bl _) rfl fun E => ?_
  repeat' (first
    | with_reducible refine Then.n ?_
    | with_reducible refine Then.r ?_
    | with_reducible refine Then.x ?_
    | with_reducible refine InB.n ?_
    | with_reducible refine InB.r ?_
    | with_reducible refine InB.hit ?_
    | with_reducible refine InB.miss (by decide) ?_
    | ((with_reducible refine AL.on ?_); first
      | (refine AL.gd rfl ?_; first | (refine AL.gskip rfl rfl ?_; (conv => (arg 5; try tactic => exact nrm))) | (refine AL.gs1 rfl rfl (fun hc => ?_) (fun hc => ?_) <;> (try simp only [decide_eq_true_eq, decide_eq_false_iff_not, Bool.not_true, Bool.not_false, Bool.not_eq_true', Bool.not_eq_false', Int.not_lt, Int.not_le, Classical.not_not, ne_eq] at hc) <;> first | (exfalso; first | contradiction | (first | omega | (simp_all; done)); done) | (conv => (arg 5; try tactic => exact nrm))) | (refine AL.gs0 rfl rfl (fun hc => ?_) (fun hc => ?_) <;> (try simp only [decide_eq_true_eq, decide_eq_false_iff_not, Bool.not_true, Bool.not_false, Bool.not_eq_true', Bool.not_eq_false', Int.not_lt, Int.not_le, Classical.not_not, ne_eq] at hc) <;> first | (exfalso; first | contradiction | (first | omega | (simp_all; done)); done) | (conv => (arg 5; try tactic => exact nrm))))
      | ((first | ((with_reducible refine AL.k_move ?_); first | (refine AL.q rfl (OQ.move (by conv => lhs; whnf)) ?_)) | ((with_reducible refine AL.k_call ?_); first | refine AL.q rfl (OQ.lenS (xt := 35) (r := (none, 5, true)) rfl (by kernel_rfl)) ?_ | refine AL.q rfl (OQ.lenS (xt := 55) (r := (none, 2, true)) rfl (by kernel_rfl)) ?_) | ((with_reducible refine AL.k_load ?_); first | refine AL.q rfl (OQ.loadN (ty := 37) (n := 3) rfl (by kernel_rfl) (by kernel_rfl) rfl) ?_ | (refine AL.q rfl (OQ.load1 (ty := 35) rfl (by kernel_rfl) (by conv => lhs; whnf)) ?_) | refine AL.q rfl (OQ.loadN (ty := 25) (n := 5) rfl (by kernel_rfl) (by kernel_rfl) rfl) ?_ | refine AL.q rfl (OQ.loadN (ty := 60) (n := 2) rfl (by kernel_rfl) (by kernel_rfl) rfl) ?_) | ((with_reducible refine AL.k_assign ?_); first | (refine AL.q rfl (OQ.assign (by conv => lhs; whnf)) ?_)) | ((with_reducible refine AL.k_binOp ?_); first | refine AL.q rfl (OQ.neq rfl rfl) ?_ | refine AL.q rfl (OQ.subi rfl rfl (by omega)) ?_ | refine AL.q rfl (OQ.sub rfl rfl) ?_ | refine AL.q rfl (nel_t25 rfl rfl) ?_ | refine AL.q rfl (OQ.eql rfl rfl) ?_ | refine AL.q rfl (OQ.gtr rfl rfl) ?_ | refine AL.q rfl (OQ.leq rfl rfl) ?_ | refine AL.q rfl (OQ.lss rfl rfl) ?_ | refine AL.q rfl (OQ.addi rfl rfl (by omega)) ?_ | refine AL.q rfl (OQ.add rfl rfl) ?_ | refine AL.q rfl (nel_t60 rfl rfl) ?_) | ((with_reducible refine AL.k_pick ?_); first | (refine AL.q rfl (OQ.pickT rfl (by with_reducible rfl) (by conv => lhs; whnf)) ?_) | (refine AL.q rfl (OQ.pickF rfl (by with_reducible rfl) (by conv => lhs; whnf)) ?_)) | ((with_reducible refine AL.k_extract ?_); first | refine AL.q rfl (OQ.extract rfl rfl) ?_) | ((with_reducible refine AL.k_unOp ?_); first | refine AL.q rfl (OQ.not rfl) ?_) | ((with_reducible refine AL.k_fieldAddr ?_); first | refine AL.q rfl (OQ.fieldA (ty := 37) (i := 2) (n := 1) (off := 2) (g := false) rfl (by kernel_rfl) (by decide)) ?_)); (conv => (arg 5; try tactic => exact nrm)))
      | ((first | ((with_reducible refine AL.k_call ?_); first | refine AL.pcall (g := 20) rfl (by kernel_rfl) rfl (flown_q _) ?_ | refine AL.pcall (g := 21) rfl (by kernel_rfl) rfl (H1 _ _ (SlB.arg (.inl rfl))) ?_) | ((with_reducible refine AL.k_build ?_); first | refine AL.q rfl (OQ.buildS (ty := 37) (zs := [.string ⟨#[]⟩, .int .i64 0, .slice none 0 0]) (pls := [(0, 1), (1, 1), (2, 1)]) (by kernel_rfl) rfl (by kernel_rfl) rfl rfl rfl) ?_)); (conv => (arg 5; try tactic => exact nrm)))
      | ((first | ((with_reducible refine AL.k_alloc ?_); first | refine AL.w rfl (OW.alloc (ty := 25) (z := [.int .i64 0, .int .i64 0, .int .i64 0, .int .i64 0, .int .i64 0]) (by kernel_rfl) rfl) ?_) | ((with_reducible refine AL.k_store ?_); first | (refine AL.w rfl (OW.store (ty := 25) (n := 5) rfl (by conv => lhs; whnf) rfl rfl (by kernel_rfl) rfl rfl (by decide) rfl (Nat.le_of_ble_eq_true rfl) (by intro r h; cases h)) ?_)) | ((with_reducible refine AL.k_box ?_); first | (refine AL.w rfl (OW.box (by conv => lhs; whnf) (by intro r h; cases h)) ?_))); (conv => (arg 5; try tactic => exact nrm)); (conv => (arg 6; try tactic => exact nrm)))
      | (refine AL.bs rfl (fun hc => ?_) (fun hc => ?_) <;> (fail_if_success (with_reducible exact lit_no hc)) <;> (try simp only [decide_eq_true_eq, decide_eq_false_iff_not, Bool.not_true, Bool.not_false, Bool.not_eq_true', Bool.not_eq_false', Int.not_lt, Int.not_le, Classical.not_not, ne_eq] at hc) <;> first | (exfalso; first | contradiction | (first | omega | (simp_all; done)); done) | (conv => (arg 5; try tactic => exact nrm)))
      | refine AL.nil ?_)
    | ((with_reducible refine AW.on ?_); first
      | refine AW.seq ?_
      | refine AW.skip ?_
      | refine AW.exit ?_
      | refine AW.ret ?_
      | refine AW.block ?_
      | (refine AW.draw (id := 8) 11 #[0, 1, 0, 0, 15, 31, 63, 63, 0, 383, 1023] (by kernel_rfl) (by kernel_rfl) ?_; (conv => (arg 8; simp only [List.take_succ_cons, List.take_zero])))
      | (refine AW.draw (id := 13) 15 #[0, 1, 0, 0, 8, 0, 56, 120, 255, 511, 1023, 1023, 0, 6143, 16383] (by kernel_rfl) (by kernel_rfl) ?_; (conv => (arg 8; simp only [List.take_succ_cons, List.take_zero])))
      | (refine AW.draw (id := 14) 10 #[0, 1, 0, 7, 15, 31, 63, 63, 127, 511] (by kernel_rfl) (by kernel_rfl) ?_; (conv => (arg 8; simp only [List.take_succ_cons, List.take_zero])))
      | (refine AW.draw (id := 15) 10 #[0, 1, 0, 7, 15, 31, 63, 63, 127, 511] (by kernel_rfl) (by kernel_rfl) ?_; (conv => (arg 8; simp only [List.take_succ_cons, List.take_zero])))
      | (refine AW.draw (id := 25) 16 #[0, 1, 3, 3, 3, 27, 59, 123, 3, 3, 771, 1795, 3843, 8191, 16383, 32767] (by kernel_rfl) (by kernel_rfl) ?_; (conv => (arg 8; simp only [List.take_succ_cons, List.take_zero])))
      | (refine AW.draw (id := 26) 12 #[0, 1, 0, 0, 8, 31, 63, 127, 127, 0, 767, 2047] (by kernel_rfl) (by kernel_rfl) ?_; (conv => (arg 8; simp only [List.take_succ_cons, List.take_zero])))
      | (refine AW.draw (id := 27) 12 #[0, 1, 0, 0, 8, 31, 63, 127, 127, 0, 767, 2047] (by kernel_rfl) (by kernel_rfl) ?_; (conv => (arg 8; simp only [List.take_succ_cons, List.take_zero])))
      | (refine AW.region (id := 5) ?_; exfalso; first | omega | (simp_all; done); done)
      | refine AW.region ?_
      | (refine AW.conds rfl (fun hc => ?_) (fun hc => ?_) <;> (try simp only [decide_eq_true_eq, decide_eq_false_iff_not, Bool.not_true, Bool.not_false, Bool.not_eq_true', Bool.not_eq_false', Int.not_lt, Int.not_le, Classical.not_not, ne_eq] at hc) <;> first | (exfalso; first | contradiction | (first | omega | (simp_all; done)); done) | skip))
    | ((with_reducible refine AD.on ?_); first
      | (refine AD.gskip rfl rfl rfl ?_; (conv => (arg 10; try tactic => exact nrm)))
      | ((first | refine AD.gn1 rfl rfl (by with_reducible rfl) rfl ?_ | refine AD.gn0 rfl rfl (by with_reducible rfl) rfl ?_); (conv => (arg 10; try tactic => exact nrm)))
      | ((first | ((with_reducible refine AD.k_move ?_); first | (refine AD.q rfl (OQ.move (by conv => lhs; whnf)) rfl rfl rfl ?_) | (refine AD.qc rfl rfl (by with_reducible rfl) (OQ.move (by conv => lhs; whnf)) rfl rfl rfl ?_)) | ((with_reducible refine AD.k_load ?_); first | refine AD.q rfl (OQ.loadN (ty := 37) (n := 3) rfl (by kernel_rfl) (by kernel_rfl) rfl) rfl rfl rfl ?_ | refine AD.q rfl (OQ.loadN (ty := 25) (n := 5) rfl (by kernel_rfl) (by kernel_rfl) rfl) rfl rfl rfl ?_ | (refine AD.q rfl (OQ.load1 (ty := 35) rfl (by kernel_rfl) (by conv => lhs; whnf)) rfl rfl rfl ?_) | (refine AD.qc rfl rfl (by with_reducible rfl) (OQ.load1 (ty := 3) rfl (by kernel_rfl) (by conv => lhs; whnf)) rfl rfl rfl ?_) | refine AD.q rfl (OQ.loadN (ty := 23) (n := 3) rfl (by kernel_rfl) (by kernel_rfl) rfl) rfl rfl rfl ?_) | ((with_reducible refine AD.k_assign ?_); first | (refine AD.q rfl (OQ.assign (by conv => lhs; whnf)) rfl rfl rfl ?_)) | ((with_reducible refine AD.k_extract ?_); first | refine AD.q rfl (OQ.extract rfl rfl) rfl rfl rfl ?_) | ((with_reducible refine AD.k_pick ?_); first | (refine AD.q rfl (OQ.pickT rfl (by with_reducible rfl) (by conv => lhs; whnf)) rfl rfl rfl ?_) | (refine AD.q rfl (OQ.pickF rfl (by with_reducible rfl) (by conv => lhs; whnf)) rfl rfl rfl ?_)) | ((with_reducible refine AD.k_fieldAddr ?_); first | refine AD.q rfl (OQ.fieldA (ty := 37) (i := 2) (n := 1) (off := 2) (g := false) rfl (by kernel_rfl) (by decide)) rfl rfl rfl ?_ | refine AD.qc rfl rfl (by with_reducible rfl) (OQ.fieldA (ty := 60) (i := 0) (n := 1) (off := 0) (g := false) rfl (by kernel_rfl) (by decide)) rfl rfl rfl ?_ | refine AD.qc rfl rfl (by with_reducible rfl) (OQ.fieldA (ty := 60) (i := 1) (n := 1) (off := 1) (g := false) rfl (by kernel_rfl) (by decide)) rfl rfl rfl ?_ | refine AD.q rfl (OQ.fieldA (ty := 25) (i := 1) (n := 3) (off := 1) (g := true) rfl (by kernel_rfl) (by decide)) rfl rfl rfl ?_) | ((with_reducible refine AD.k_indexAddr ?_); first | refine AD.q rfl (OQ.idxAddr (ty := 35) (z := 5) (g := true) rfl rfl (by kernel_rfl) (by omega) (by omega)) rfl rfl rfl ?_ | refine AD.qc rfl rfl (by with_reducible rfl) (OQ.idxAddr (ty := 55) (z := 2) (g := true) rfl rfl (by kernel_rfl) (by omega) (by omega)) rfl rfl rfl ?_)); (conv => (arg 10; try tactic => exact nrm)))
      | ((first | ((with_reducible refine AD.k_alloc ?_); first | refine AD.new (ty := 37) (z := [.string ⟨#[]⟩, .int .i64 0, .slice none 0 0]) rfl rfl rfl (by kernel_rfl) rfl (Nat.lt_of_lt_of_le (Nat.lt_succ_self _) (Nat.le_of_ble_eq_true rfl)) rfl ?_ | refine AD.new (ty := 60) (z := [.int .i64 0, .int .i64 0]) rfl rfl rfl (by kernel_rfl) rfl (Nat.lt_of_lt_of_le (Nat.lt_succ_self _) (Nat.le_of_ble_eq_true rfl)) rfl ?_) | ((with_reducible refine AD.k_store ?_); first | (refine AD.init (ty := 37) (p := 0) rfl rfl rfl rfl rfl rfl (by kernel_rfl) (by conv => lhs; whnf) rfl (by kernel_rfl) rfl rfl rfl (by intro r h; cases h) ?_) | (refine AD.init (ty := 60) (p := 0) rfl rfl rfl rfl rfl rfl (by kernel_rfl) (by conv => lhs; whnf) rfl (by kernel_rfl) rfl rfl rfl (by intro r h; cases h) ?_))); (conv => (arg 10; try tactic => exact nrm)); (conv => (arg 9; try dsimp only [Nat.reduceAdd])); (conv => (arg 11; try tactic => exact nrm)))
      | (refine AD.bs rfl (fun hc => ?_) (fun hc => ?_) <;> (fail_if_success (with_reducible exact lit_no hc)) <;> (try simp only [decide_eq_true_eq, decide_eq_false_iff_not, Bool.not_true, Bool.not_false, Bool.not_eq_true', Bool.not_eq_false', Int.not_lt, Int.not_le, Classical.not_not, ne_eq] at hc) <;> first | (exfalso; first | contradiction | (first | omega | (simp_all; done)); done) | (conv => (arg 10; try tactic => exact nrm)))
      | (refine AD.gs1 rfl rfl (fun hc => ?_) (fun hc => ?_) <;> (fail_if_success (with_reducible exact lit_no hc)) <;> (try simp only [decide_eq_true_eq, decide_eq_false_iff_not, Bool.not_true, Bool.not_false, Bool.not_eq_true', Bool.not_eq_false', Int.not_lt, Int.not_le, Classical.not_not, ne_eq] at hc) <;> first | (exfalso; first | contradiction | (first | omega | (simp_all; done)); done) | (conv => (arg 10; try tactic => exact nrm)))
      | (refine AD.gs0 rfl rfl (fun hc => ?_) (fun hc => ?_) <;> (fail_if_success (with_reducible exact lit_no hc)) <;> (try simp only [decide_eq_true_eq, decide_eq_false_iff_not, Bool.not_true, Bool.not_false, Bool.not_eq_true', Bool.not_eq_false', Int.not_lt, Int.not_le, Classical.not_not, ne_eq] at hc) <;> first | (exfalso; first | contradiction | (first | omega | (simp_all; done)); done) | (conv => (arg 10; try tactic => exact nrm)))
      | (refine AD.nil ?_; (conv => (arg 4; simp only [List.drop_succ_cons, List.drop_zero, List.drop_nil])); (conv => (arg 5; try tactic => exact nrm)); (conv => (arg 6; try tactic => exact nrm))))
    | ((with_reducible refine FinP.on ?_); (first | refine FinP.ret (.tmp (by conv => lhs; whnf) .nil) ?_ rfl | refine FinP.end (.tmp (by conv => lhs; whnf) .nil) ?_ rfl); (try simp only [pack, List.drop, List.take]); all_goals (rfl)))
/-- An orbit that is wrong. -/
theorem TcL_e (k : Int) (s : St) (g : Bool) (ho : Ors nm l) (hl : l.length ≤ 1000) (hf : (fewB nm.size l.length && briefB nm.data.toList bd l) = true) (h0 : (orbE nm.data.toList bd l).2 ≠ 0) :
    PCalls Tryz.prog 5 [obW nm bd (va 0 l g), .int .i64 k, stV s] [bl l] (.bool true) := by
  have hnm := ho.nm
  have H1 := fun (m : Mem) (v : Value) (hS : SlB m v l) => brief_c (nm := nm) (bd := bd) hS ho.wf (by omega) (by omega)
  rw [hf] at H1
  have H2 := fun (m : Mem) (v : Value) (hS : SlB m v l) => Err_q (bd := bd) hS ho
  generalize (orbE nm.data.toList bd l).2 = c at *
  clear hf
  refine PCalls.enter (t := [obW nm bd (va 0 l g), .int .i64 k, stV s, undef, undef, undef, undef, undef, undef, undef, undef, undef, undef, undef, undef, undef, undef, undef, undef, undef, undef, undef, undef, undef, undef, undef, undef, undef, undef, undef, undef, undef, undef, undef, undef, undef, undef, undef, undef, undef, undef, undef, undef, undef, undef, undef, undef, undef, undef, undef, undef, undef, undef, undef, undef, undef, undef, undef, undef, undef, undef, undef, undef, undef, undef, undef, undef, undef, undef, undef, undef, undef, undef, undef, undef, undef, undef, undef, undef, undef, undef, undef, undef, undef, undef, undef, undef, undef, undef, undef, undef, undef, undef, undef, undef, undef, undef, undef, undef, undef, undef, undef, undef, undef, undef, undef, undef, undef, undef, undef, undef, undef, undef, undef, undef, undef, undef, undef, undef, undef, undef, undef, undef, undef, undef, undef, undef, undef, undef, undef, undef, undef, undef, undef, undef, undef, undef, undef, undef, undef, undef, undef, undef, undef, undef, undef, undef, undef, undef, undef, undef, undef, undef, undef, undef, undef, undef, undef, undef, undef, undef, undef, undef, undef, undef, undef, undef, undef, undef, undef, undef, undef, undef, undef, undef, undef, undef, undef, undef, undef, undef, undef, undef, undef, undef, undef, undef, undef, undef, undef, undef, undef, undef, undef, undef, undef, undef, undef, undef, undef, undef, undef]) Tryz.func5 rfl (ro_bl _) rfl fun E => ?_
  repeat' (first
    | with_reducible refine Then.n ?_
    | with_reducible refine Then.r ?_
    | with_reducible refine Then.x ?_
    | with_reducible refine InB.n ?_
    | with_reducible refine InB.r ?_
    | with_reducible refine InB.hit ?_
    | with_reducible refine InB.miss (by decide) ?_
    | ((with_reducible refine AL.on ?_); first
      | (refine AL.gd rfl ?_; first | (refine AL.gskip rfl rfl ?_; (conv => (arg 5; try tactic => exact nrm))) | (refine AL.gs1 rfl rfl (fun hc => ?_) (fun hc => ?_) <;> (try simp only [decide_eq_true_eq, decide_eq_false_iff_not, Bool.not_true, Bool.not_false, Bool.not_eq_true', Bool.not_eq_false', Int.not_lt, Int.not_le, Classical.not_not, ne_eq] at hc) <;> first | (exfalso; first | contradiction | (first | omega | (simp_all; done)); done) | (conv => (arg 5; try tactic => exact nrm))) | (refine AL.gs0 rfl rfl (fun hc => ?_) (fun hc => ?_) <;> (try simp only [decide_eq_true_eq, decide_eq_false_iff_not, Bool.not_true, Bool.not_false, Bool.not_eq_true', Bool.not_eq_false', Int.not_lt, Int.not_le, Classical.not_not, ne_eq] at hc) <;> first | (exfalso; first | contradiction | (first | omega | (simp_all; done)); done) | (conv => (arg 5; try tactic => exact nrm))))
      | ((first | ((with_reducible refine AL.k_move ?_); first | (refine AL.q rfl (OQ.move (by conv => lhs; whnf)) ?_)) | ((with_reducible refine AL.k_call ?_); first | refine AL.q rfl (OQ.lenS (xt := 35) (r := (none, 5, true)) rfl (by kernel_rfl)) ?_ | refine AL.q rfl (OQ.lenS (xt := 55) (r := (none, 2, true)) rfl (by kernel_rfl)) ?_) | ((with_reducible refine AL.k_load ?_); first | refine AL.q rfl (OQ.loadN (ty := 37) (n := 3) rfl (by kernel_rfl) (by kernel_rfl) rfl) ?_ | (refine AL.q rfl (OQ.load1 (ty := 35) rfl (by kernel_rfl) (by conv => lhs; whnf)) ?_) | refine AL.q rfl (OQ.loadN (ty := 25) (n := 5) rfl (by kernel_rfl) (by kernel_rfl) rfl) ?_ | refine AL.q rfl (OQ.loadN (ty := 60) (n := 2) rfl (by kernel_rfl) (by kernel_rfl) rfl) ?_) | ((with_reducible refine AL.k_assign ?_); first | (refine AL.q rfl (OQ.assign (by conv => lhs; whnf)) ?_)) | ((with_reducible refine AL.k_binOp ?_); first | refine AL.q rfl (OQ.neq rfl rfl) ?_ | refine AL.q rfl (OQ.subi rfl rfl (by omega)) ?_ | refine AL.q rfl (OQ.sub rfl rfl) ?_ | refine AL.q rfl (nel_t25 rfl rfl) ?_ | refine AL.q rfl (OQ.eql rfl rfl) ?_ | refine AL.q rfl (OQ.gtr rfl rfl) ?_ | refine AL.q rfl (OQ.leq rfl rfl) ?_ | refine AL.q rfl (OQ.lss rfl rfl) ?_ | refine AL.q rfl (OQ.addi rfl rfl (by omega)) ?_ | refine AL.q rfl (OQ.add rfl rfl) ?_ | refine AL.q rfl (nel_t60 rfl rfl) ?_) | ((with_reducible refine AL.k_pick ?_); first | (refine AL.q rfl (OQ.pickT rfl (by with_reducible rfl) (by conv => lhs; whnf)) ?_) | (refine AL.q rfl (OQ.pickF rfl (by with_reducible rfl) (by conv => lhs; whnf)) ?_)) | ((with_reducible refine AL.k_extract ?_); first | refine AL.q rfl (OQ.extract rfl rfl) ?_) | ((with_reducible refine AL.k_unOp ?_); first | refine AL.q rfl (OQ.not rfl) ?_) | ((with_reducible refine AL.k_fieldAddr ?_); first | refine AL.q rfl (OQ.fieldA (ty := 37) (i := 2) (n := 1) (off := 2) (g := false) rfl (by kernel_rfl) (by decide)) ?_)); (conv => (arg 5; try tactic => exact nrm)))
      | ((first | ((with_reducible refine AL.k_call ?_); first | refine AL.pcall (g := 20) rfl (by kernel_rfl) rfl (flown_q _) ?_ | refine AL.pcall (g := 21) rfl (by kernel_rfl) rfl (H1 _ _ (SlB.arg (.inl rfl))) ?_ | refine AL.pcall (g := 15) rfl (by kernel_rfl) rfl (H2 _ _ (SlB.arg (.inl rfl))) ?_) | ((with_reducible refine AL.k_build ?_); first | refine AL.q rfl (OQ.buildS (ty := 37) (zs := [.string ⟨#[]⟩, .int .i64 0, .slice none 0 0]) (pls := [(0, 1), (1, 1), (2, 1)]) (by kernel_rfl) rfl (by kernel_rfl) rfl rfl rfl) ?_)); (conv => (arg 5; try tactic => exact nrm)))
      | ((first | ((with_reducible refine AL.k_alloc ?_); first | refine AL.w rfl (OW.alloc (ty := 25) (z := [.int .i64 0, .int .i64 0, .int .i64 0, .int .i64 0, .int .i64 0]) (by kernel_rfl) rfl) ?_) | ((with_reducible refine AL.k_store ?_); first | (refine AL.w rfl (OW.store (ty := 25) (n := 5) rfl (by conv => lhs; whnf) rfl rfl (by kernel_rfl) rfl rfl (by decide) rfl (Nat.le_of_ble_eq_true rfl) (by intro r h; cases h)) ?_)) | ((with_reducible refine AL.k_box ?_); first | (refine AL.w rfl (OW.box (by conv => lhs; whnf) (by intro r h; cases h)) ?_))); (conv => (arg 5; try tactic => exact nrm)); (conv => (arg 6; try tactic => exact nrm)))
      | (refine AL.bs rfl (fun hc => ?_) (fun hc => ?_) <;> (fail_if_success (with_reducible exact lit_no hc)) <;> (try simp only [decide_eq_true_eq, decide_eq_false_iff_not, Bool.not_true, Bool.not_false, Bool.not_eq_true', Bool.not_eq_false', Int.not_lt, Int.not_le, Classical.not_not, ne_eq] at hc) <;> first | (exfalso; first | contradiction | (first | omega | (simp_all; done)); done) | (conv => (arg 5; try tactic => exact nrm)))
      | refine AL.nil ?_)
    | ((with_reducible refine AW.on ?_); first
      | refine AW.seq ?_
      | refine AW.skip ?_
      | refine AW.exit ?_
      | refine AW.ret ?_
      | refine AW.block ?_
      | (refine AW.draw (id := 8) 11 #[0, 1, 0, 0, 15, 31, 63, 63, 0, 383, 1023] (by kernel_rfl) (by kernel_rfl) ?_; (conv => (arg 8; simp only [List.take_succ_cons, List.take_zero])))
      | (refine AW.draw (id := 13) 15 #[0, 1, 0, 0, 8, 0, 56, 120, 255, 511, 1023, 1023, 0, 6143, 16383] (by kernel_rfl) (by kernel_rfl) ?_; (conv => (arg 8; simp only [List.take_succ_cons, List.take_zero])))
      | (refine AW.draw (id := 14) 10 #[0, 1, 0, 7, 15, 31, 63, 63, 127, 511] (by kernel_rfl) (by kernel_rfl) ?_; (conv => (arg 8; simp only [List.take_succ_cons, List.take_zero])))
      | (refine AW.draw (id := 15) 10 #[0, 1, 0, 7, 15, 31, 63, 63, 127, 511] (by kernel_rfl) (by kernel_rfl) ?_; (conv => (arg 8; simp only [List.take_succ_cons, List.take_zero])))
      | (refine AW.draw (id := 25) 16 #[0, 1, 3, 3, 3, 27, 59, 123, 3, 3, 771, 1795, 3843, 8191, 16383, 32767] (by kernel_rfl) (by kernel_rfl) ?_; (conv => (arg 8; simp only [List.take_succ_cons, List.take_zero])))
      | (refine AW.draw (id := 26) 12 #[0, 1, 0, 0, 8, 31, 63, 127, 127, 0, 767, 2047] (by kernel_rfl) (by kernel_rfl) ?_; (conv => (arg 8; simp only [List.take_succ_cons, List.take_zero])))
      | (refine AW.draw (id := 27) 12 #[0, 1, 0, 0, 8, 31, 63, 127, 127, 0, 767, 2047] (by kernel_rfl) (by kernel_rfl) ?_; (conv => (arg 8; simp only [List.take_succ_cons, List.take_zero])))
      | (refine AW.region (id := 5) ?_; exfalso; first | omega | (simp_all; done); done)
      | refine AW.region ?_
      | (refine AW.conds rfl (fun hc => ?_) (fun hc => ?_) <;> (try simp only [decide_eq_true_eq, decide_eq_false_iff_not, Bool.not_true, Bool.not_false, Bool.not_eq_true', Bool.not_eq_false', Int.not_lt, Int.not_le, Classical.not_not, ne_eq] at hc) <;> first | (exfalso; first | contradiction | (first | omega | (simp_all; done)); done) | skip))
    | ((with_reducible refine AD.on ?_); first
      | (refine AD.gskip rfl rfl rfl ?_; (conv => (arg 10; try tactic => exact nrm)))
      | ((first | refine AD.gn1 rfl rfl (by with_reducible rfl) rfl ?_ | refine AD.gn0 rfl rfl (by with_reducible rfl) rfl ?_); (conv => (arg 10; try tactic => exact nrm)))
      | ((first | ((with_reducible refine AD.k_move ?_); first | (refine AD.q rfl (OQ.move (by conv => lhs; whnf)) rfl rfl rfl ?_) | (refine AD.qc rfl rfl (by with_reducible rfl) (OQ.move (by conv => lhs; whnf)) rfl rfl rfl ?_)) | ((with_reducible refine AD.k_load ?_); first | refine AD.q rfl (OQ.loadN (ty := 37) (n := 3) rfl (by kernel_rfl) (by kernel_rfl) rfl) rfl rfl rfl ?_ | refine AD.q rfl (OQ.loadN (ty := 25) (n := 5) rfl (by kernel_rfl) (by kernel_rfl) rfl) rfl rfl rfl ?_ | (refine AD.q rfl (OQ.load1 (ty := 35) rfl (by kernel_rfl) (by conv => lhs; whnf)) rfl rfl rfl ?_) | (refine AD.qc rfl rfl (by with_reducible rfl) (OQ.load1 (ty := 3) rfl (by kernel_rfl) (by conv => lhs; whnf)) rfl rfl rfl ?_) | refine AD.q rfl (OQ.loadN (ty := 23) (n := 3) rfl (by kernel_rfl) (by kernel_rfl) rfl) rfl rfl rfl ?_) | ((with_reducible refine AD.k_assign ?_); first | (refine AD.q rfl (OQ.assign (by conv => lhs; whnf)) rfl rfl rfl ?_)) | ((with_reducible refine AD.k_extract ?_); first | refine AD.q rfl (OQ.extract rfl rfl) rfl rfl rfl ?_) | ((with_reducible refine AD.k_pick ?_); first | (refine AD.q rfl (OQ.pickT rfl (by with_reducible rfl) (by conv => lhs; whnf)) rfl rfl rfl ?_) | (refine AD.q rfl (OQ.pickF rfl (by with_reducible rfl) (by conv => lhs; whnf)) rfl rfl rfl ?_)) | ((with_reducible refine AD.k_fieldAddr ?_); first | refine AD.q rfl (OQ.fieldA (ty := 37) (i := 2) (n := 1) (off := 2) (g := false) rfl (by kernel_rfl) (by decide)) rfl rfl rfl ?_ | refine AD.qc rfl rfl (by with_reducible rfl) (OQ.fieldA (ty := 60) (i := 0) (n := 1) (off := 0) (g := false) rfl (by kernel_rfl) (by decide)) rfl rfl rfl ?_ | refine AD.qc rfl rfl (by with_reducible rfl) (OQ.fieldA (ty := 60) (i := 1) (n := 1) (off := 1) (g := false) rfl (by kernel_rfl) (by decide)) rfl rfl rfl ?_ | refine AD.q rfl (OQ.fieldA (ty := 25) (i := 1) (n := 3) (off := 1) (g := true) rfl (by kernel_rfl) (by decide)) rfl rfl rfl ?_) | ((with_reducible refine AD.k_indexAddr ?_); first | refine AD.q rfl (OQ.idxAddr (ty := 35) (z := 5) (g := true) rfl rfl (by kernel_rfl) (by omega) (by omega)) rfl rfl rfl ?_ | refine AD.qc rfl rfl (by with_reducible rfl) (OQ.idxAddr (ty := 55) (z := 2) (g := true) rfl rfl (by kernel_rfl) (by omega) (by omega)) rfl rfl rfl ?_)); (conv => (arg 10; try tactic => exact nrm)))
      | ((first | ((with_reducible refine AD.k_alloc ?_); first | refine AD.new (ty := 37) (z := [.string ⟨#[]⟩, .int .i64 0, .slice none 0 0]) rfl rfl rfl (by kernel_rfl) rfl (Nat.lt_of_lt_of_le (Nat.lt_succ_self _) (Nat.le_of_ble_eq_true rfl)) rfl ?_ | refine AD.new (ty := 60) (z := [.int .i64 0, .int .i64 0]) rfl rfl rfl (by kernel_rfl) rfl (Nat.lt_of_lt_of_le (Nat.lt_succ_self _) (Nat.le_of_ble_eq_true rfl)) rfl ?_) | ((with_reducible refine AD.k_store ?_); first | (refine AD.init (ty := 37) (p := 0) rfl rfl rfl rfl rfl rfl (by kernel_rfl) (by conv => lhs; whnf) rfl (by kernel_rfl) rfl rfl rfl (by intro r h; cases h) ?_) | (refine AD.init (ty := 60) (p := 0) rfl rfl rfl rfl rfl rfl (by kernel_rfl) (by conv => lhs; whnf) rfl (by kernel_rfl) rfl rfl rfl (by intro r h; cases h) ?_))); (conv => (arg 10; try tactic => exact nrm)); (conv => (arg 9; try dsimp only [Nat.reduceAdd])); (conv => (arg 11; try tactic => exact nrm)))
      | (refine AD.bs rfl (fun hc => ?_) (fun hc => ?_) <;> (fail_if_success (with_reducible exact lit_no hc)) <;> (try simp only [decide_eq_true_eq, decide_eq_false_iff_not, Bool.not_true, Bool.not_false, Bool.not_eq_true', Bool.not_eq_false', Int.not_lt, Int.not_le, Classical.not_not, ne_eq] at hc) <;> first | (exfalso; first | contradiction | (first | omega | (simp_all; done)); done) | (conv => (arg 10; try tactic => exact nrm)))
      | (refine AD.gs1 rfl rfl (fun hc => ?_) (fun hc => ?_) <;> (fail_if_success (with_reducible exact lit_no hc)) <;> (try simp only [decide_eq_true_eq, decide_eq_false_iff_not, Bool.not_true, Bool.not_false, Bool.not_eq_true', Bool.not_eq_false', Int.not_lt, Int.not_le, Classical.not_not, ne_eq] at hc) <;> first | (exfalso; first | contradiction | (first | omega | (simp_all; done)); done) | (conv => (arg 10; try tactic => exact nrm)))
      | (refine AD.gs0 rfl rfl (fun hc => ?_) (fun hc => ?_) <;> (fail_if_success (with_reducible exact lit_no hc)) <;> (try simp only [decide_eq_true_eq, decide_eq_false_iff_not, Bool.not_true, Bool.not_false, Bool.not_eq_true', Bool.not_eq_false', Int.not_lt, Int.not_le, Classical.not_not, ne_eq] at hc) <;> first | (exfalso; first | contradiction | (first | omega | (simp_all; done)); done) | (conv => (arg 10; try tactic => exact nrm)))
      | (refine AD.nil ?_; (conv => (arg 4; simp only [List.drop_succ_cons, List.drop_zero, List.drop_nil])); (conv => (arg 5; try tactic => exact nrm)); (conv => (arg 6; try tactic => exact nrm))))
    | ((with_reducible refine FinP.on ?_); (first | refine FinP.ret (.tmp (by conv => lhs; whnf) .nil) ?_ rfl | refine FinP.end (.tmp (by conv => lhs; whnf) .nil) ?_ rfl); (try simp only [pack, List.drop, List.take]); all_goals (rfl)))
/-- A state that is not there, or a wrong one. -/
theorem TcL_6 (k : Int) (s : St) (ho : Ors nm l) (hR : Right bd l) (hf : (fewB nm.size l.length && briefB nm.data.toList bd l) = true) (he : (orbE nm.data.toList bd l).2 = 0) (hk : rngB k 0 (l.length - 1) = false ∨ stE s ≠ 0) :
    PCalls Tryz.prog 5 [obI nm bd 0 l, .int .i64 k, stV s] [some ⟨flatS l, false, 0⟩] (.bool true) := by
  have hnm := ho.nm
  have h40 := hR.n40
  have h2 := hR.n2
  have H1 := fun (m : Mem) (v : Value) (hS : SlB m v l) => brief_c (nm := nm) (bd := bd) hS ho.wf (by omega) (by omega)
  rw [hf] at H1
  have H2 := fun (m : Mem) (v : Value) (hS : SlB m v l) => Err_q (bd := bd) hS ho
  rw [he] at H2
  have H5 := Within_c k 0 (l.length - 1)
  have H6 := chk_p s
  generalize rngB k 0 (l.length - 1) = r at *
  generalize stE s = c at *
  obtain ⟨x0, x1, x2, x3, x4⟩ := s
  clear hf he hR
  rcases hk with rfl | hk
  all_goals
    refine PCalls.enter (t := [obI nm bd 0 l, .int .i64 k, stV ⟨x0, x1, x2, x3, x4⟩, undef, undef, undef, undef, undef, undef, undef, undef, undef, undef, undef, undef, undef, undef, undef, undef, undef, undef, undef, undef, undef, undef, undef, undef, undef, undef, undef, undef, undef, undef, undef, undef, undef, undef, undef, undef, undef, undef, undef, undef, undef, undef, undef, undef, undef, undef, undef, undef, undef, undef, undef, undef, undef, undef, undef, undef, undef, undef, undef, undef, undef, undef, undef, undef, undef, undef, undef, undef, undef, undef, undef, undef, undef, undef, undef, undef, undef, undef, undef, undef, undef, undef, undef, undef, undef, undef, undef, undef, undef, undef, undef, undef, undef, undef, undef, undef, undef, undef, undef, undef, undef, undef, undef, undef, undef, undef, undef, undef, undef, undef, undef, undef, undef, undef, undef, undef, undef, undef, undef, undef, undef, undef, undef, undef, undef, undef, undef, undef, undef, undef, undef, undef, undef, undef, undef, undef, undef, undef, undef, undef, undef, undef, undef, undef, undef, undef, undef, undef, undef, undef, undef, undef, undef, undef, undef, undef, undef, undef, undef, undef, undef, undef, undef, undef, undef, undef, undef, undef, undef, undef, undef, undef, undef, undef, undef, undef, undef, undef, undef, undef, undef, undef, undef, undef, undef, undef, undef, undef, undef, undef, undef, undef, undef, undef, undef, undef, undef, undef, undef]) Tryz.func5 rfl (ro1 _ rfl) rfl fun E => ?_
    repeat' (first
      | with_reducible refine Then.n ?_
      | with_reducible refine Then.r ?_
      | with_reducible refine Then.x ?_
      | with_reducible refine InB.n ?_
      | with_reducible refine InB.r ?_
      | with_reducible refine InB.hit ?_
      | with_reducible refine InB.miss (by decide) ?_
      | ((with_reducible refine AL.on ?_); first
        | (refine AL.gd rfl ?_; first | (refine AL.gskip rfl rfl ?_; (conv => (arg 5; try tactic => exact nrm))) | (refine AL.gs1 rfl rfl (fun hc => ?_) (fun hc => ?_) <;> (try simp only [decide_eq_true_eq, decide_eq_false_iff_not, Bool.not_true, Bool.not_false, Bool.not_eq_true', Bool.not_eq_false', Int.not_lt, Int.not_le, Classical.not_not, ne_eq] at hc) <;> first | (exfalso; first | contradiction | (first | omega | (simp_all; done)); done) | (conv => (arg 5; try tactic => exact nrm))) | (refine AL.gs0 rfl rfl (fun hc => ?_) (fun hc => ?_) <;> (try simp only [decide_eq_true_eq, decide_eq_false_iff_not, Bool.not_true, Bool.not_false, Bool.not_eq_true', Bool.not_eq_false', Int.not_lt, Int.not_le, Classical.not_not, ne_eq] at hc) <;> first | (exfalso; first | contradiction | (first | omega | (simp_all; done)); done) | (conv => (arg 5; try tactic => exact nrm))))
        | ((first | ((with_reducible refine AL.k_move ?_); first | (refine AL.q rfl (OQ.move (by conv => lhs; whnf)) ?_)) | ((with_reducible refine AL.k_call ?_); first | refine AL.q rfl (OQ.lenS (xt := 35) (r := (none, 5, true)) rfl (by kernel_rfl)) ?_ | refine AL.q rfl (OQ.lenS (xt := 55) (r := (none, 2, true)) rfl (by kernel_rfl)) ?_) | ((with_reducible refine AL.k_load ?_); first | refine AL.q rfl (OQ.loadN (ty := 37) (n := 3) rfl (by kernel_rfl) (by kernel_rfl) rfl) ?_ | (refine AL.q rfl (OQ.load1 (ty := 35) rfl (by kernel_rfl) (by conv => lhs; whnf)) ?_) | refine AL.q rfl (OQ.loadN (ty := 25) (n := 5) rfl (by kernel_rfl) (by kernel_rfl) rfl) ?_ | refine AL.q rfl (OQ.loadN (ty := 60) (n := 2) rfl (by kernel_rfl) (by kernel_rfl) rfl) ?_) | ((with_reducible refine AL.k_assign ?_); first | (refine AL.q rfl (OQ.assign (by conv => lhs; whnf)) ?_)) | ((with_reducible refine AL.k_binOp ?_); first | refine AL.q rfl (OQ.neq rfl rfl) ?_ | refine AL.q rfl (OQ.subi rfl rfl (by omega)) ?_ | refine AL.q rfl (OQ.sub rfl rfl) ?_ | refine AL.q rfl (nel_t25 rfl rfl) ?_ | refine AL.q rfl (OQ.eql rfl rfl) ?_ | refine AL.q rfl (OQ.gtr rfl rfl) ?_ | refine AL.q rfl (OQ.leq rfl rfl) ?_ | refine AL.q rfl (OQ.lss rfl rfl) ?_ | refine AL.q rfl (OQ.addi rfl rfl (by omega)) ?_ | refine AL.q rfl (OQ.add rfl rfl) ?_ | refine AL.q rfl (nel_t60 rfl rfl) ?_) | ((with_reducible refine AL.k_pick ?_); first | (refine AL.q rfl (OQ.pickT rfl (by with_reducible rfl) (by conv => lhs; whnf)) ?_) | (refine AL.q rfl (OQ.pickF rfl (by with_reducible rfl) (by conv => lhs; whnf)) ?_)) | ((with_reducible refine AL.k_extract ?_); first | refine AL.q rfl (OQ.extract rfl rfl) ?_) | ((with_reducible refine AL.k_unOp ?_); first | refine AL.q rfl (OQ.not rfl) ?_) | ((with_reducible refine AL.k_fieldAddr ?_); first | refine AL.q rfl (OQ.fieldA (ty := 37) (i := 2) (n := 1) (off := 2) (g := false) rfl (by kernel_rfl) (by decide)) ?_)); (conv => (arg 5; try tactic => exact nrm)))
        | ((first | ((with_reducible refine AL.k_call ?_); first | refine AL.pcall (g := 20) rfl (by kernel_rfl) rfl (flown_q _) ?_ | refine AL.pcall (g := 21) rfl (by kernel_rfl) rfl (H1 _ _ (.blk 0 _ rfl rfl rfl)) ?_ | refine AL.pcall (g := 15) rfl (by kernel_rfl) rfl (H2 _ _ (.blk 0 _ rfl rfl rfl)) ?_ | refine AL.pcall (g := 22) rfl (by kernel_rfl) rfl (H5 _) ?_ | refine AL.pcall (g := 11) rfl (by kernel_rfl) rfl (H6 _) ?_) | ((with_reducible refine AL.k_build ?_); first | refine AL.q rfl (OQ.buildS (ty := 37) (zs := [.string ⟨#[]⟩, .int .i64 0, .slice none 0 0]) (pls := [(0, 1), (1, 1), (2, 1)]) (by kernel_rfl) rfl (by kernel_rfl) rfl rfl rfl) ?_)); (conv => (arg 5; try tactic => exact nrm)))
        | ((first | ((with_reducible refine AL.k_alloc ?_); first | refine AL.w rfl (OW.alloc (ty := 25) (z := [.int .i64 0, .int .i64 0, .int .i64 0, .int .i64 0, .int .i64 0]) (by kernel_rfl) rfl) ?_) | ((with_reducible refine AL.k_store ?_); first | (refine AL.w rfl (OW.store (ty := 25) (n := 5) rfl (by conv => lhs; whnf) rfl rfl (by kernel_rfl) rfl rfl (by decide) rfl (Nat.le_of_ble_eq_true rfl) (by intro r h; cases h)) ?_)) | ((with_reducible refine AL.k_box ?_); first | (refine AL.w rfl (OW.box (by conv => lhs; whnf) (by intro r h; cases h)) ?_))); (conv => (arg 5; try tactic => exact nrm)); (conv => (arg 6; try tactic => exact nrm)))
        | (refine AL.bs rfl (fun hc => ?_) (fun hc => ?_) <;> (fail_if_success (with_reducible exact lit_no hc)) <;> (try simp only [decide_eq_true_eq, decide_eq_false_iff_not, Bool.not_true, Bool.not_false, Bool.not_eq_true', Bool.not_eq_false', Int.not_lt, Int.not_le, Classical.not_not, ne_eq] at hc) <;> first | (exfalso; first | contradiction | (first | omega | (simp_all; done)); done) | (conv => (arg 5; try tactic => exact nrm)))
        | refine AL.nil ?_)
      | ((with_reducible refine AW.on ?_); first
        | refine AW.seq ?_
        | refine AW.skip ?_
        | refine AW.exit ?_
        | refine AW.ret ?_
        | refine AW.block ?_
        | (refine AW.draw (id := 8) 11 #[0, 1, 0, 0, 15, 31, 63, 63, 0, 383, 1023] (by kernel_rfl) (by kernel_rfl) ?_; (conv => (arg 8; simp only [List.take_succ_cons, List.take_zero])))
        | (refine AW.draw (id := 13) 15 #[0, 1, 0, 0, 8, 0, 56, 120, 255, 511, 1023, 1023, 0, 6143, 16383] (by kernel_rfl) (by kernel_rfl) ?_; (conv => (arg 8; simp only [List.take_succ_cons, List.take_zero])))
        | (refine AW.draw (id := 14) 10 #[0, 1, 0, 7, 15, 31, 63, 63, 127, 511] (by kernel_rfl) (by kernel_rfl) ?_; (conv => (arg 8; simp only [List.take_succ_cons, List.take_zero])))
        | (refine AW.draw (id := 15) 10 #[0, 1, 0, 7, 15, 31, 63, 63, 127, 511] (by kernel_rfl) (by kernel_rfl) ?_; (conv => (arg 8; simp only [List.take_succ_cons, List.take_zero])))
        | (refine AW.draw (id := 25) 16 #[0, 1, 3, 3, 3, 27, 59, 123, 3, 3, 771, 1795, 3843, 8191, 16383, 32767] (by kernel_rfl) (by kernel_rfl) ?_; (conv => (arg 8; simp only [List.take_succ_cons, List.take_zero])))
        | (refine AW.draw (id := 26) 12 #[0, 1, 0, 0, 8, 31, 63, 127, 127, 0, 767, 2047] (by kernel_rfl) (by kernel_rfl) ?_; (conv => (arg 8; simp only [List.take_succ_cons, List.take_zero])))
        | (refine AW.draw (id := 27) 12 #[0, 1, 0, 0, 8, 31, 63, 127, 127, 0, 767, 2047] (by kernel_rfl) (by kernel_rfl) ?_; (conv => (arg 8; simp only [List.take_succ_cons, List.take_zero])))
        | (refine AW.region (id := 5) ?_; exfalso; first | omega | (simp_all; done); done)
        | refine AW.region ?_
        | (refine AW.conds rfl (fun hc => ?_) (fun hc => ?_) <;> (try simp only [decide_eq_true_eq, decide_eq_false_iff_not, Bool.not_true, Bool.not_false, Bool.not_eq_true', Bool.not_eq_false', Int.not_lt, Int.not_le, Classical.not_not, ne_eq] at hc) <;> first | (exfalso; first | contradiction | (first | omega | (simp_all; done)); done) | skip))
      | ((with_reducible refine AD.on ?_); first
        | (refine AD.gskip rfl rfl rfl ?_; (conv => (arg 10; try tactic => exact nrm)))
        | ((first | refine AD.gn1 rfl rfl (by with_reducible rfl) rfl ?_ | refine AD.gn0 rfl rfl (by with_reducible rfl) rfl ?_); (conv => (arg 10; try tactic => exact nrm)))
        | ((first | ((with_reducible refine AD.k_move ?_); first | (refine AD.q rfl (OQ.move (by conv => lhs; whnf)) rfl rfl rfl ?_) | (refine AD.qc rfl rfl (by with_reducible rfl) (OQ.move (by conv => lhs; whnf)) rfl rfl rfl ?_)) | ((with_reducible refine AD.k_load ?_); first | refine AD.q rfl (OQ.loadN (ty := 37) (n := 3) rfl (by kernel_rfl) (by kernel_rfl) rfl) rfl rfl rfl ?_ | refine AD.q rfl (OQ.loadN (ty := 25) (n := 5) rfl (by kernel_rfl) (by kernel_rfl) rfl) rfl rfl rfl ?_ | (refine AD.q rfl (OQ.load1 (ty := 35) rfl (by kernel_rfl) (by conv => lhs; whnf)) rfl rfl rfl ?_) | (refine AD.qc rfl rfl (by with_reducible rfl) (OQ.load1 (ty := 3) rfl (by kernel_rfl) (by conv => lhs; whnf)) rfl rfl rfl ?_) | refine AD.q rfl (OQ.loadN (ty := 23) (n := 3) rfl (by kernel_rfl) (by kernel_rfl) rfl) rfl rfl rfl ?_) | ((with_reducible refine AD.k_assign ?_); first | (refine AD.q rfl (OQ.assign (by conv => lhs; whnf)) rfl rfl rfl ?_)) | ((with_reducible refine AD.k_extract ?_); first | refine AD.q rfl (OQ.extract rfl rfl) rfl rfl rfl ?_) | ((with_reducible refine AD.k_pick ?_); first | (refine AD.q rfl (OQ.pickT rfl (by with_reducible rfl) (by conv => lhs; whnf)) rfl rfl rfl ?_) | (refine AD.q rfl (OQ.pickF rfl (by with_reducible rfl) (by conv => lhs; whnf)) rfl rfl rfl ?_)) | ((with_reducible refine AD.k_fieldAddr ?_); first | refine AD.q rfl (OQ.fieldA (ty := 37) (i := 2) (n := 1) (off := 2) (g := false) rfl (by kernel_rfl) (by decide)) rfl rfl rfl ?_ | refine AD.qc rfl rfl (by with_reducible rfl) (OQ.fieldA (ty := 60) (i := 0) (n := 1) (off := 0) (g := false) rfl (by kernel_rfl) (by decide)) rfl rfl rfl ?_ | refine AD.qc rfl rfl (by with_reducible rfl) (OQ.fieldA (ty := 60) (i := 1) (n := 1) (off := 1) (g := false) rfl (by kernel_rfl) (by decide)) rfl rfl rfl ?_ | refine AD.q rfl (OQ.fieldA (ty := 25) (i := 1) (n := 3) (off := 1) (g := true) rfl (by kernel_rfl) (by decide)) rfl rfl rfl ?_) | ((with_reducible refine AD.k_indexAddr ?_); first | refine AD.q rfl (OQ.idxAddr (ty := 35) (z := 5) (g := true) rfl rfl (by kernel_rfl) (by omega) (by omega)) rfl rfl rfl ?_ | refine AD.qc rfl rfl (by with_reducible rfl) (OQ.idxAddr (ty := 55) (z := 2) (g := true) rfl rfl (by kernel_rfl) (by omega) (by omega)) rfl rfl rfl ?_)); (conv => (arg 10; try tactic => exact nrm)))
        | ((first | first | refine AD.pcallc (g := 22) rfl rfl (by with_reducible rfl) rfl (by kernel_rfl) rfl (H5 _) rfl rfl ?_); (conv => (arg 10; try tactic => exact nrm)))
        | ((first | ((with_reducible refine AD.k_alloc ?_); first | refine AD.new (ty := 37) (z := [.string ⟨#[]⟩, .int .i64 0, .slice none 0 0]) rfl rfl rfl (by kernel_rfl) rfl (Nat.lt_of_lt_of_le (Nat.lt_succ_self _) (Nat.le_of_ble_eq_true rfl)) rfl ?_ | refine AD.new (ty := 60) (z := [.int .i64 0, .int .i64 0]) rfl rfl rfl (by kernel_rfl) rfl (Nat.lt_of_lt_of_le (Nat.lt_succ_self _) (Nat.le_of_ble_eq_true rfl)) rfl ?_) | ((with_reducible refine AD.k_store ?_); first | (refine AD.init (ty := 37) (p := 0) rfl rfl rfl rfl rfl rfl (by kernel_rfl) (by conv => lhs; whnf) rfl (by kernel_rfl) rfl rfl rfl (by intro r h; cases h) ?_) | (refine AD.init (ty := 60) (p := 0) rfl rfl rfl rfl rfl rfl (by kernel_rfl) (by conv => lhs; whnf) rfl (by kernel_rfl) rfl rfl rfl (by intro r h; cases h) ?_))); (conv => (arg 10; try tactic => exact nrm)); (conv => (arg 9; try dsimp only [Nat.reduceAdd])); (conv => (arg 11; try tactic => exact nrm)))
        | (refine AD.bs rfl (fun hc => ?_) (fun hc => ?_) <;> (fail_if_success (with_reducible exact lit_no hc)) <;> (try simp only [decide_eq_true_eq, decide_eq_false_iff_not, Bool.not_true, Bool.not_false, Bool.not_eq_true', Bool.not_eq_false', Int.not_lt, Int.not_le, Classical.not_not, ne_eq] at hc) <;> first | (exfalso; first | contradiction | (first | omega | (simp_all; done)); done) | (conv => (arg 10; try tactic => exact nrm)))
        | (refine AD.gs1 rfl rfl (fun hc => ?_) (fun hc => ?_) <;> (fail_if_success (with_reducible exact lit_no hc)) <;> (try simp only [decide_eq_true_eq, decide_eq_false_iff_not, Bool.not_true, Bool.not_false, Bool.not_eq_true', Bool.not_eq_false', Int.not_lt, Int.not_le, Classical.not_not, ne_eq] at hc) <;> first | (exfalso; first | contradiction | (first | omega | (simp_all; done)); done) | (conv => (arg 10; try tactic => exact nrm)))
        | (refine AD.gs0 rfl rfl (fun hc => ?_) (fun hc => ?_) <;> (fail_if_success (with_reducible exact lit_no hc)) <;> (try simp only [decide_eq_true_eq, decide_eq_false_iff_not, Bool.not_true, Bool.not_false, Bool.not_eq_true', Bool.not_eq_false', Int.not_lt, Int.not_le, Classical.not_not, ne_eq] at hc) <;> first | (exfalso; first | contradiction | (first | omega | (simp_all; done)); done) | (conv => (arg 10; try tactic => exact nrm)))
        | (refine AD.nil ?_; (conv => (arg 4; simp only [List.drop_succ_cons, List.drop_zero, List.drop_nil])); (conv => (arg 5; try tactic => exact nrm)); (conv => (arg 6; try tactic => exact nrm))))
      | ((with_reducible refine FinP.on ?_); (first | refine FinP.ret (.tmp (by conv => lhs; whnf) .nil) ?_ rfl | refine FinP.end (.tmp (by conv => lhs; whnf) .nil) ?_ rfl); (try simp only [pack, List.drop, List.take]); all_goals (rfl)))
end
end Go.Proofs.YthhhkjbhhjcjoaaGreatDoor
end
end

section
section
namespace Go.Proofs.YthhhkjbhhjcjoaaGreatDoor
open Go Go.RowKit Go.Ob Go.Ab Go.Lib Go.Tx
set_option maxRecDepth 100000
set_option maxHeartbeats 4000000
section
variable {l a : List St} {nm : ByteArray} {bd : Int} {N0 : Nat} {W0 : World}
attribute [local irreducible] OQ OW AL AW AD AF SW
/-- A correction that is wrong. -/
theorem TcL_a (k : Nat) (s : St) (hk : k < l.length) (ho : Ors nm l) (hR : Right bd l) (hf : (fewB nm.size l.length && briefB nm.data.toList bd l) = true) (he : (orbE nm.data.toList bd l).2 = 0) (hs : stE s = 0)
    {TX : ByteArray} (HF : ∀ m, PCallsW N0 W0 Tryz.prog 7 [stV s] m (.string TX)) (HP : ∀ m, PCallsW N0 W0 Tryz.prog 8 [.string TX] m (.tuple #[stV s, .int .i64 0]))
    (ea : Int) (hea0 : ea ≠ 0) (hC : ∀ z, PCalls Tryz.prog 23 [obI nm bd 0 l, .int .i64 k, stV s] [some ⟨flatS l, false, z⟩] (.tuple #[ob0, .int .i64 ea])) :
    PCallsW N0 W0 Tryz.prog 5 [obI nm bd 0 l, .int .i64 k, stV s] [some ⟨flatS l, false, 0⟩] (.bool true) := by
  have hnm := ho.nm
  have h40 := hR.n40
  have h2 := hR.n2
  have H1 := fun (m : Mem) (v : Value) (hS : SlB m v l) => brief_c (nm := nm) (bd := bd) hS ho.wf (by omega) (by omega)
  rw [hf] at H1
  have H2 := fun (m : Mem) (v : Value) (hS : SlB m v l) => Err_q (bd := bd) hS ho
  rw [he] at H2
  have H5 := Within_c k 0 (l.length - 1)
  rw [show rngB k 0 (l.length - 1) = true from rngB_true.2 (by omega)] at H5
  have H6 := chk_p s
  rw [hs] at H6
  have HC : ∀ (m : Mem) (i : Nat) (blk : Blk), m.at i = some blk → blk.cells = flatS l → PCalls Tryz.prog 23 [obI nm bd i l, .int .i64 k, stV s] m (.tuple #[ob0, .int .i64 ea]) :=
    fun m i blk hb hc => PCalls.via1 hC hb hc (flatS_scal l) rfl rfl rfl rfl
  obtain ⟨x0, x1, x2, x3, x4⟩ := s
  clear hC hf he hR hs
  refine PCallsW.enterJ (t := [obI nm bd 0 l, .int .i64 k, stV ⟨x0, x1, x2, x3, x4⟩, undef, undef, undef, undef, undef, undef, undef, undef, undef, undef, undef, undef, undef, undef, undef, undef, undef, undef, undef, undef, undef, undef, undef, undef, undef, undef, undef, undef, undef, undef, undef, undef, undef, undef, undef, undef, undef, undef, undef, undef, undef, undef, undef, undef, undef, undef, undef, undef, undef, undef, undef, undef, undef, undef, undef, undef, undef, undef, undef, undef, undef, undef, undef, undef, undef, undef, undef, undef, undef, undef, undef, undef, undef, undef, undef, undef, undef, undef, undef, undef, undef, undef, undef, undef, undef, undef, undef, undef, undef, undef, undef, undef, undef, undef, undef, undef, undef, undef, undef, undef, undef, undef, undef, undef, undef, undef, undef, undef, undef, undef, undef, undef, undef, undef, undef, undef, undef, undef, undef, undef, undef, undef, undef, undef, undef, undef, undef, undef, undef, undef, undef, undef, undef, undef, undef, undef, undef, undef, undef, undef, undef, undef, undef, undef, undef, undef, undef, undef, undef, undef, undef, undef, undef, undef, undef, undef, undef, undef, undef, undef, undef, undef, undef, undef, undef, undef, undef, undef, undef, undef, undef, undef, undef, undef, undef, undef, undef, undef, undef, undef, undef, undef, undef, undef, undef, undef, undef, undef, undef, undef, undef, undef, undef, undef, undef, undef, undef, undef, undef]) Tryz.func5 rfl (ro1 _ rfl) rfl fun E hE hG => ?_
  repeat' (first
    | with_reducible refine Then.n ?_
    | with_reducible refine Then.r ?_
    | with_reducible refine Then.x ?_
    | with_reducible refine InB.n ?_
    | with_reducible refine InB.r ?_
    | with_reducible refine InB.hit ?_
    | with_reducible refine InB.miss (by decide) ?_
    | ((with_reducible refine AL.on ?_); first
      | (refine AL.gd rfl ?_; first | (refine AL.gskip rfl rfl ?_; (conv => (arg 5; try tactic => exact nrm))) | (refine AL.gs1 rfl rfl (fun hc => ?_) (fun hc => ?_) <;> (try simp only [decide_eq_true_eq, decide_eq_false_iff_not, Bool.not_true, Bool.not_false, Bool.not_eq_true', Bool.not_eq_false', Int.not_lt, Int.not_le, Classical.not_not, ne_eq] at hc) <;> first | (exfalso; first | contradiction | (first | omega | (simp at hc; done) | (simp_all; done)); done) | (conv => (arg 5; try tactic => exact nrm))) | (refine AL.gs0 rfl rfl (fun hc => ?_) (fun hc => ?_) <;> (try simp only [decide_eq_true_eq, decide_eq_false_iff_not, Bool.not_true, Bool.not_false, Bool.not_eq_true', Bool.not_eq_false', Int.not_lt, Int.not_le, Classical.not_not, ne_eq] at hc) <;> first | (exfalso; first | contradiction | (first | omega | (simp at hc; done) | (simp_all; done)); done) | (conv => (arg 5; try tactic => exact nrm))))
      | ((first | ((with_reducible refine AL.k_move ?_); first | (refine AL.q rfl (OQ.move (by conv => lhs; whnf)) ?_)) | ((with_reducible refine AL.k_call ?_); first | refine AL.q rfl (OQ.lenS (xt := 35) (r := (none, 5, true)) rfl (by kernel_rfl)) ?_ | refine AL.q rfl (OQ.lenS (xt := 55) (r := (none, 2, true)) rfl (by kernel_rfl)) ?_) | ((with_reducible refine AL.k_load ?_); first | refine AL.q rfl (OQ.loadN (ty := 37) (n := 3) rfl (by kernel_rfl) (by kernel_rfl) rfl) ?_ | (refine AL.q rfl (OQ.load1 (ty := 35) rfl (by kernel_rfl) (by conv => lhs; whnf)) ?_) | refine AL.q rfl (OQ.loadN (ty := 25) (n := 5) rfl (by kernel_rfl) (by kernel_rfl) rfl) ?_ | refine AL.q rfl (OQ.loadN (ty := 60) (n := 2) rfl (by kernel_rfl) (by kernel_rfl) rfl) ?_) | ((with_reducible refine AL.k_assign ?_); first | (refine AL.q rfl (OQ.assign (by conv => lhs; whnf)) ?_)) | ((with_reducible refine AL.k_binOp ?_); first | refine AL.q rfl (OQ.neq rfl rfl) ?_ | refine AL.q rfl (OQ.subi rfl rfl (by omega)) ?_ | refine AL.q rfl (OQ.sub rfl rfl) ?_ | refine AL.q rfl (nel_t25 rfl rfl) ?_ | refine AL.q rfl (OQ.eql rfl rfl) ?_ | refine AL.q rfl (OQ.gtr rfl rfl) ?_ | refine AL.q rfl (OQ.leq rfl rfl) ?_ | refine AL.q rfl (OQ.lss rfl rfl) ?_ | refine AL.q rfl (OQ.addi rfl rfl (by omega)) ?_ | refine AL.q rfl (OQ.add rfl rfl) ?_ | refine AL.q rfl (nel_t60 rfl rfl) ?_) | ((with_reducible refine AL.k_pick ?_); first | (refine AL.q rfl (OQ.pickT rfl (by with_reducible rfl) (by conv => lhs; whnf)) ?_) | (refine AL.q rfl (OQ.pickF rfl (by with_reducible rfl) (by conv => lhs; whnf)) ?_)) | ((with_reducible refine AL.k_extract ?_); first | refine AL.q rfl (OQ.extract rfl rfl) ?_) | ((with_reducible refine AL.k_unOp ?_); first | refine AL.q rfl (OQ.not rfl) ?_) | ((with_reducible refine AL.k_fieldAddr ?_); first | refine AL.q rfl (OQ.fieldA (ty := 37) (i := 2) (n := 1) (off := 2) (g := false) rfl (by kernel_rfl) (by decide)) ?_)); (conv => (arg 5; try tactic => exact nrm)))
      | ((first | ((with_reducible refine AL.k_call ?_); first | refine AL.pcall (g := 20) rfl (by kernel_rfl) rfl (flown_q _) ?_ | refine AL.pcall (g := 21) rfl (by kernel_rfl) rfl (H1 _ _ (.blk 0 _ rfl rfl rfl)) ?_ | refine AL.pcall (g := 15) rfl (by kernel_rfl) rfl (H2 _ _ (.blk 0 _ rfl rfl rfl)) ?_ | refine AL.pcall (g := 22) rfl (by kernel_rfl) rfl (H5 _) ?_ | refine AL.pcall (g := 11) rfl (by kernel_rfl) rfl (H6 _) ?_ | refine AL.pcall (g := 18) rfl (by kernel_rfl) rfl ((by exact PCalls.any Same_z rfl rfl _)) ?_) | ((with_reducible refine AL.k_build ?_); first | refine AL.q rfl (OQ.buildS (ty := 37) (zs := [.string ⟨#[]⟩, .int .i64 0, .slice none 0 0]) (pls := [(0, 1), (1, 1), (2, 1)]) (by kernel_rfl) rfl (by kernel_rfl) rfl rfl rfl) ?_)); (conv => (arg 5; try tactic => exact nrm)))
      | ((first | ((with_reducible refine AL.k_call ?_); first | refine AL.acallW hG (g := 7) rfl (by kernel_rfl) rfl ((by exact (HF _).acalls)) ?_ | refine AL.acallW hG (g := 8) rfl (by kernel_rfl) rfl ((by exact (HP _).acalls)) ?_) | ((with_reducible refine AL.k_alloc ?_); first | refine AL.w rfl (OW.alloc (ty := 25) (z := [.int .i64 0, .int .i64 0, .int .i64 0, .int .i64 0, .int .i64 0]) (by kernel_rfl) rfl) ?_) | ((with_reducible refine AL.k_store ?_); first | (refine AL.w rfl (OW.store (ty := 25) (n := 5) rfl (by conv => lhs; whnf) rfl rfl (by kernel_rfl) rfl rfl (by decide) rfl (Nat.le_of_ble_eq_true rfl) (by intro r h; cases h)) ?_)) | ((with_reducible refine AL.k_box ?_); first | (refine AL.w rfl (OW.box (by conv => lhs; whnf) (by intro r h; cases h)) ?_))); (conv => (arg 5; try tactic => exact nrm)); (conv => (arg 6; try tactic => exact nrm)))
      | (refine AL.bs rfl (fun hc => ?_) (fun hc => ?_) <;> (fail_if_success (with_reducible exact lit_no hc)) <;> (try simp only [decide_eq_true_eq, decide_eq_false_iff_not, Bool.not_true, Bool.not_false, Bool.not_eq_true', Bool.not_eq_false', Int.not_lt, Int.not_le, Classical.not_not, ne_eq] at hc) <;> first | (exfalso; first | contradiction | (first | omega | (simp at hc; done) | (simp_all; done)); done) | (conv => (arg 5; try tactic => exact nrm)))
      | refine AL.nil ?_)
    | ((with_reducible refine AW.on ?_); first
      | refine AW.seq ?_
      | refine AW.skip ?_
      | refine AW.exit ?_
      | refine AW.ret ?_
      | refine AW.block ?_
      | (refine AW.drawF (id := 8) 10 #[0, 1, 0, 0, 15, 31, 63, 63, 0, 383, 1023] (by kernel_rfl) (by kernel_rfl) ?_; (conv => (arg 8; simp only [List.take_succ_cons, List.take_zero])))
      | (refine AW.drawF (id := 13) 14 #[0, 1, 0, 0, 8, 0, 56, 120, 255, 511, 1023, 1023, 0, 6143, 16383] (by kernel_rfl) (by kernel_rfl) ?_; (conv => (arg 8; simp only [List.take_succ_cons, List.take_zero])))
      | (refine AW.drawF (id := 14) 9 #[0, 1, 0, 7, 15, 31, 63, 63, 127, 511] (by kernel_rfl) (by kernel_rfl) ?_; (conv => (arg 8; simp only [List.take_succ_cons, List.take_zero])))
      | (refine AW.drawF (id := 15) 9 #[0, 1, 0, 7, 15, 31, 63, 63, 127, 511] (by kernel_rfl) (by kernel_rfl) ?_; (conv => (arg 8; simp only [List.take_succ_cons, List.take_zero])))
      | (refine AW.draw (id := 25) 16 #[0, 1, 3, 3, 3, 27, 59, 123, 3, 3, 771, 1795, 3843, 8191, 16383, 32767] (by kernel_rfl) (by kernel_rfl) ?_; (conv => (arg 8; simp only [List.take_succ_cons, List.take_zero])))
      | (refine AW.drawF (id := 26) 11 #[0, 1, 0, 0, 8, 31, 63, 127, 127, 0, 767, 2047] (by kernel_rfl) (by kernel_rfl) ?_; (conv => (arg 8; simp only [List.take_succ_cons, List.take_zero])))
      | (refine AW.drawF (id := 27) 11 #[0, 1, 0, 0, 8, 31, 63, 127, 127, 0, 767, 2047] (by kernel_rfl) (by kernel_rfl) ?_; (conv => (arg 8; simp only [List.take_succ_cons, List.take_zero])))
      | (refine AW.region (id := 4) ?_; exfalso; first | omega | (simp at hc; done) | (simp_all; done); done)
      | (refine AW.region (id := 7) ?_; exfalso; first | omega | (simp at hc; done) | (simp_all; done); done)
      | (refine AW.region (id := 11) ?_; exfalso; first | omega | (simp at hc; done) | (simp_all; done); done)
      | refine AW.region ?_
      | (refine AW.conds rfl (fun hc => ?_) (fun hc => ?_) <;> (try simp only [decide_eq_true_eq, decide_eq_false_iff_not, Bool.not_true, Bool.not_false, Bool.not_eq_true', Bool.not_eq_false', Int.not_lt, Int.not_le, Classical.not_not, ne_eq] at hc) <;> first | (exfalso; first | contradiction | (first | omega | (simp at hc; done) | (simp_all; done)); done) | skip))
    | ((with_reducible refine AD.on ?_); first
      | (refine AD.gskip rfl rfl rfl ?_; (conv => (arg 10; try tactic => exact nrm)))
      | ((first | refine AD.gn1 rfl rfl (by with_reducible rfl) rfl ?_ | refine AD.gn0 rfl rfl (by with_reducible rfl) rfl ?_); (conv => (arg 10; try tactic => exact nrm)))
      | ((first | ((with_reducible refine AD.k_move ?_); first | (refine AD.q rfl (OQ.move (by conv => lhs; whnf)) rfl rfl rfl ?_) | (refine AD.qc rfl rfl (by with_reducible rfl) (OQ.move (by conv => lhs; whnf)) rfl rfl rfl ?_)) | ((with_reducible refine AD.k_load ?_); first | (refine AD.qc rfl rfl (by with_reducible rfl) (OQ.load1 (ty := 3) rfl (by kernel_rfl) (by conv => lhs; whnf)) rfl rfl rfl ?_)) | ((with_reducible refine AD.k_assign ?_); first | (refine AD.q rfl (OQ.assign (by conv => lhs; whnf)) rfl rfl rfl ?_)) | ((with_reducible refine AD.k_pick ?_); first | (refine AD.q rfl (OQ.pickT rfl (by with_reducible rfl) (by conv => lhs; whnf)) rfl rfl rfl ?_) | (refine AD.q rfl (OQ.pickF rfl (by with_reducible rfl) (by conv => lhs; whnf)) rfl rfl rfl ?_)) | ((with_reducible refine AD.k_fieldAddr ?_); first | refine AD.qc rfl rfl (by with_reducible rfl) (OQ.fieldA (ty := 60) (i := 0) (n := 1) (off := 0) (g := false) rfl (by kernel_rfl) (by decide)) rfl rfl rfl ?_ | refine AD.qc rfl rfl (by with_reducible rfl) (OQ.fieldA (ty := 60) (i := 1) (n := 1) (off := 1) (g := false) rfl (by kernel_rfl) (by decide)) rfl rfl rfl ?_) | ((with_reducible refine AD.k_indexAddr ?_); first | refine AD.qc rfl rfl (by with_reducible rfl) (OQ.idxAddr (ty := 55) (z := 2) (g := true) rfl rfl (by kernel_rfl) (by omega) (by omega)) rfl rfl rfl ?_)); (conv => (arg 10; try tactic => exact nrm)))
      | ((first | first | refine AD.pcallc (g := 22) rfl rfl (by with_reducible rfl) rfl (by kernel_rfl) rfl (H5 _) rfl rfl ?_); (conv => (arg 10; try tactic => exact nrm)))
      | (refine AD.bs rfl (fun hc => ?_) (fun hc => ?_) <;> (fail_if_success (with_reducible exact lit_no hc)) <;> (try simp only [decide_eq_true_eq, decide_eq_false_iff_not, Bool.not_true, Bool.not_false, Bool.not_eq_true', Bool.not_eq_false', Int.not_lt, Int.not_le, Classical.not_not, ne_eq] at hc) <;> first | (exfalso; first | contradiction | (first | omega | (simp at hc; done) | (simp_all; done)); done) | (conv => (arg 10; try tactic => exact nrm)))
      | (refine AD.gs1 rfl rfl (fun hc => ?_) (fun hc => ?_) <;> (fail_if_success (with_reducible exact lit_no hc)) <;> (try simp only [decide_eq_true_eq, decide_eq_false_iff_not, Bool.not_true, Bool.not_false, Bool.not_eq_true', Bool.not_eq_false', Int.not_lt, Int.not_le, Classical.not_not, ne_eq] at hc) <;> first | (exfalso; first | contradiction | (first | omega | (simp at hc; done) | (simp_all; done)); done) | (conv => (arg 10; try tactic => exact nrm)))
      | (refine AD.gs0 rfl rfl (fun hc => ?_) (fun hc => ?_) <;> (fail_if_success (with_reducible exact lit_no hc)) <;> (try simp only [decide_eq_true_eq, decide_eq_false_iff_not, Bool.not_true, Bool.not_false, Bool.not_eq_true', Bool.not_eq_false', Int.not_lt, Int.not_le, Classical.not_not, ne_eq] at hc) <;> first | (exfalso; first | contradiction | (first | omega | (simp at hc; done) | (simp_all; done)); done) | (conv => (arg 10; try tactic => exact nrm)))
      | (refine AD.nil ?_; (conv => (arg 4; simp only [List.drop_succ_cons, List.drop_zero, List.drop_nil])); (conv => (arg 5; try tactic => exact nrm)); (conv => (arg 6; try tactic => exact nrm))))
    | ((with_reducible refine AF.on ?_); first
      | ((first | ((with_reducible refine AF.k_move ?_); first | (refine AF.q 0 (SW.q (OQ.move (by conv => lhs; whnf)) rfl) ?_)) | ((with_reducible refine AF.k_call ?_); first | refine AF.q 2 (SW.pcall (g := 23) rfl (by kernel_rfl) rfl ((by exact HC _ _ _ rfl rfl)) rfl) ?_) | ((with_reducible refine AF.k_load ?_); first | refine AF.ql rfl (SW.q (OQ.loadN (ty := 37) (n := 3) rfl (by kernel_rfl) (by kernel_rfl) rfl) rfl) ?_ | refine AF.ql rfl (SW.q (OQ.loadN (ty := 25) (n := 5) rfl (by kernel_rfl) (by kernel_rfl) rfl) rfl) ?_ | (refine AF.ql rfl (SW.q (OQ.load1 (ty := 35) rfl (by kernel_rfl) (by conv => lhs; whnf)) rfl) ?_) | refine AF.ql rfl (SW.q (OQ.loadN (ty := 23) (n := 3) rfl (by kernel_rfl) (by kernel_rfl) rfl) rfl) ?_) | ((with_reducible refine AF.k_assign ?_); first | (refine AF.q 0 (SW.q (OQ.assign (by conv => lhs; whnf)) rfl) ?_)) | ((with_reducible refine AF.k_extract ?_); first | refine AF.q 0 (SW.q (OQ.extract rfl rfl) rfl) ?_) | ((with_reducible refine AF.k_fieldAddr ?_); first | refine AF.q 0 (SW.q (OQ.fieldA (ty := 37) (i := 2) (n := 1) (off := 2) (g := false) rfl (by kernel_rfl) (by decide)) rfl) ?_ | refine AF.q 0 (SW.q (OQ.fieldA (ty := 25) (i := 1) (n := 3) (off := 1) (g := true) rfl (by kernel_rfl) (by decide)) rfl) ?_) | ((with_reducible refine AF.k_indexAddr ?_); first | refine AF.q 0 (SW.q (OQ.idxAddr (ty := 35) (z := 5) (g := true) rfl rfl (by kernel_rfl) (by omega) (by omega)) rfl) ?_)); (conv => (arg 9; try tactic => exact nrmF)); (conv => (arg 11; try simp only [List.nil_append, List.cons_append])))
      | ((first | ((with_reducible refine AF.k_call ?_); first | refine AF.n1 2 (SW.acall (g := 14) rfl (by kernel_rfl) rfl ((by exact Copy_q nm bd (l := l) (.blk 0 _ rfl rfl rfl) (by omega))) rfl) rfl ?_) | ((with_reducible refine AF.k_alloc ?_); first | refine AF.n1 0 (SW.w (OW.alloc (ty := 37) (z := [.string ⟨#[]⟩, .int .i64 0, .slice none 0 0]) (by kernel_rfl) rfl) rfl) rfl ?_ | refine AF.n1 0 (SW.w (OW.alloc (ty := 60) (z := [.int .i64 0, .int .i64 0]) (by kernel_rfl) rfl) rfl) rfl ?_) | ((with_reducible refine AF.k_store ?_); first | (refine AF.sl rfl (SW.w (OW.store (ty := 37) (n := 3) rfl (by conv => lhs; whnf) rfl rfl (by kernel_rfl) rfl rfl (by decide) rfl (Nat.le_of_ble_eq_true rfl) (by intro r h; cases h)) rfl) rfl ?_) | (refine AF.sl rfl (SW.w (OW.store (ty := 60) (n := 2) rfl (by conv => lhs; whnf) rfl rfl (by kernel_rfl) rfl rfl (by decide) rfl (Nat.le_of_ble_eq_true rfl) (by intro r h; cases h)) rfl) rfl ?_))); (conv => (arg 9; try tactic => exact nrmF)); (conv => (arg 11; try simp only [List.nil_append, List.cons_append])); (conv => (arg 10; try tactic => exact nrmF)))
      | (refine AF.nil ?_ (by kernel_rfl); (conv => (arg 4; simp only [List.drop_succ_cons, List.drop_zero, List.drop_nil]))))
    | ((with_reducible refine FinJ.on ?_); first | exact FinJ.ret (.tmp (by conv => lhs; whnf) .nil) (jle_flat rfl) | exact FinJ.end (.tmp (by conv => lhs; whnf) .nil) (jle_flat rfl)))
/-- The corrected orbit is not brief. -/
theorem TcL_b (k : Nat) (s : St) (hk : k < l.length) (ho : Ors nm l) (hoa : Ors nm a) (hR : Right bd l) (hRa : Right bd a) (hf : (fewB nm.size l.length && briefB nm.data.toList bd l) = true) (he : (orbE nm.data.toList bd l).2 = 0) (hs : stE s = 0)
    {TX : ByteArray} (HF : ∀ m, PCallsW N0 W0 Tryz.prog 7 [stV s] m (.string TX)) (HP : ∀ m, PCallsW N0 W0 Tryz.prog 8 [.string TX] m (.tuple #[stV s, .int .i64 0]))
    (hea : (orbE nm.data.toList bd a).2 = 0) (hC : ∀ z, ACalls Tryz.prog 23 [obI nm bd 0 l, .int .i64 k, stV s] [some ⟨flatS l, false, z⟩] (.tuple #[obI nm bd 1 a, .int .i64 0]) [some ⟨flatS l, false, z⟩, some ⟨flatS a, true, 5⟩])
    (hfa : (fewB nm.size a.length && briefB nm.data.toList bd a) = false) :
    PCallsW N0 W0 Tryz.prog 5 [obI nm bd 0 l, .int .i64 k, stV s] [some ⟨flatS l, false, 0⟩] (.bool true) := by
  have hnm := ho.nm
  have h40 := hR.n40
  have h2 := hR.n2
  have h4a := hRa.n40
  have H1 := fun (m : Mem) (v : Value) (hS : SlB m v l) => brief_c (nm := nm) (bd := bd) hS ho.wf (by omega) (by omega)
  rw [hf] at H1
  have H2 := fun (m : Mem) (v : Value) (hS : SlB m v l) => Err_q (bd := bd) hS ho
  rw [he] at H2
  have H5 := Within_c k 0 (l.length - 1)
  rw [show rngB k 0 (l.length - 1) = true from rngB_true.2 (by omega)] at H5
  have H6 := chk_p s
  rw [hs] at H6
  have H3 := fun (m : Mem) (v : Value) (hS : SlB m v a) => brief_c (nm := nm) (bd := bd) hS hoa.wf (by omega) (by omega)
  rw [hfa] at H3
  have H4 := fun (m : Mem) (v : Value) (hS : SlB m v a) => Err_q (bd := bd) hS hoa
  rw [hea] at H4
  have HC : ∀ (m : Mem) (i : Nat) (blk : Blk), m.at i = some blk → blk.cells = flatS l → ACalls Tryz.prog 23 [obI nm bd i l, .int .i64 k, stV s] m (.tuple #[obI nm bd m.length a, .int .i64 0]) (m ++ [some ⟨flatS a, true, 5⟩]) :=
    fun m i blk hb hc => via_e hb hc (flatS_scal l) (flatS_scal a) (hC blk.esz) rfl rfl (by simp [rn3, rn2, rn1, τn]) rfl
  obtain ⟨x0, x1, x2, x3, x4⟩ := s
  clear hC hf he hR hs hea hRa hfa
  refine PCallsW.enterJ (t := [obI nm bd 0 l, .int .i64 k, stV ⟨x0, x1, x2, x3, x4⟩, undef, undef, undef, undef, undef, undef, undef, undef, undef, undef, undef, undef, undef, undef, undef, undef, undef, undef, undef, undef, undef, undef, undef, undef, undef, undef, undef, undef, undef, undef, undef, undef, undef, undef, undef, undef, undef, undef, undef, undef, undef, undef, undef, undef, undef, undef, undef, undef, undef, undef, undef, undef, undef, undef, undef, undef, undef, undef, undef, undef, undef, undef, undef, undef, undef, undef, undef, undef, undef, undef, undef, undef, undef, undef, undef, undef, undef, undef, undef, undef, undef, undef, undef, undef, undef, undef, undef, undef, undef, undef, undef, undef, undef, undef, undef, undef, undef, undef, undef, undef, undef, undef, undef, undef, undef, undef, undef, undef, undef, undef, undef, undef, undef, undef, undef, undef, undef, undef, undef, undef, undef, undef, undef, undef, undef, undef, undef, undef, undef, undef, undef, undef, undef, undef, undef, undef, undef, undef, undef, undef, undef, undef, undef, undef, undef, undef, undef, undef, undef, undef, undef, undef, undef, undef, undef, undef, undef, undef, undef, undef, undef, undef, undef, undef, undef, undef, undef, undef, undef, undef, undef, undef, undef, undef, undef, undef, undef, undef, undef, undef, undef, undef, undef, undef, undef, undef, undef, undef, undef, undef, undef, undef, undef, undef, undef, undef, undef, undef, undef]) Tryz.func5 rfl (ro1 _ rfl) rfl fun E hE hG => ?_
  repeat' (first
    | with_reducible refine Then.n ?_
    | with_reducible refine Then.r ?_
    | with_reducible refine Then.x ?_
    | with_reducible refine InB.n ?_
    | with_reducible refine InB.r ?_
    | with_reducible refine InB.hit ?_
    | with_reducible refine InB.miss (by decide) ?_
    | ((with_reducible refine AL.on ?_); first
      | (refine AL.gd rfl ?_; first | (refine AL.gskip rfl rfl ?_; (conv => (arg 5; try tactic => exact nrm))) | (refine AL.gs1 rfl rfl (fun hc => ?_) (fun hc => ?_) <;> (try simp only [decide_eq_true_eq, decide_eq_false_iff_not, Bool.not_true, Bool.not_false, Bool.not_eq_true', Bool.not_eq_false', Int.not_lt, Int.not_le, Classical.not_not, ne_eq] at hc) <;> first | (exfalso; first | contradiction | (first | omega | (simp at hc; done) | (simp_all; done)); done) | (conv => (arg 5; try tactic => exact nrm))) | (refine AL.gs0 rfl rfl (fun hc => ?_) (fun hc => ?_) <;> (try simp only [decide_eq_true_eq, decide_eq_false_iff_not, Bool.not_true, Bool.not_false, Bool.not_eq_true', Bool.not_eq_false', Int.not_lt, Int.not_le, Classical.not_not, ne_eq] at hc) <;> first | (exfalso; first | contradiction | (first | omega | (simp at hc; done) | (simp_all; done)); done) | (conv => (arg 5; try tactic => exact nrm))))
      | ((first | ((with_reducible refine AL.k_move ?_); first | (refine AL.q rfl (OQ.move (by conv => lhs; whnf)) ?_)) | ((with_reducible refine AL.k_call ?_); first | refine AL.q rfl (OQ.lenS (xt := 35) (r := (none, 5, true)) rfl (by kernel_rfl)) ?_ | refine AL.q rfl (OQ.lenS (xt := 55) (r := (none, 2, true)) rfl (by kernel_rfl)) ?_) | ((with_reducible refine AL.k_load ?_); first | refine AL.q rfl (OQ.loadN (ty := 37) (n := 3) rfl (by kernel_rfl) (by kernel_rfl) rfl) ?_ | (refine AL.q rfl (OQ.load1 (ty := 35) rfl (by kernel_rfl) (by conv => lhs; whnf)) ?_) | refine AL.q rfl (OQ.loadN (ty := 25) (n := 5) rfl (by kernel_rfl) (by kernel_rfl) rfl) ?_ | refine AL.q rfl (OQ.loadN (ty := 60) (n := 2) rfl (by kernel_rfl) (by kernel_rfl) rfl) ?_) | ((with_reducible refine AL.k_assign ?_); first | (refine AL.q rfl (OQ.assign (by conv => lhs; whnf)) ?_)) | ((with_reducible refine AL.k_binOp ?_); first | refine AL.q rfl (OQ.neq rfl rfl) ?_ | refine AL.q rfl (OQ.subi rfl rfl (by omega)) ?_ | refine AL.q rfl (OQ.sub rfl rfl) ?_ | refine AL.q rfl (nel_t25 rfl rfl) ?_ | refine AL.q rfl (OQ.eql rfl rfl) ?_ | refine AL.q rfl (OQ.gtr rfl rfl) ?_ | refine AL.q rfl (OQ.leq rfl rfl) ?_ | refine AL.q rfl (OQ.lss rfl rfl) ?_ | refine AL.q rfl (OQ.addi rfl rfl (by omega)) ?_ | refine AL.q rfl (OQ.add rfl rfl) ?_ | refine AL.q rfl (nel_t60 rfl rfl) ?_) | ((with_reducible refine AL.k_pick ?_); first | (refine AL.q rfl (OQ.pickT rfl (by with_reducible rfl) (by conv => lhs; whnf)) ?_) | (refine AL.q rfl (OQ.pickF rfl (by with_reducible rfl) (by conv => lhs; whnf)) ?_)) | ((with_reducible refine AL.k_extract ?_); first | refine AL.q rfl (OQ.extract rfl rfl) ?_) | ((with_reducible refine AL.k_unOp ?_); first | refine AL.q rfl (OQ.not rfl) ?_) | ((with_reducible refine AL.k_fieldAddr ?_); first | refine AL.q rfl (OQ.fieldA (ty := 37) (i := 2) (n := 1) (off := 2) (g := false) rfl (by kernel_rfl) (by decide)) ?_)); (conv => (arg 5; try tactic => exact nrm)))
      | ((first | ((with_reducible refine AL.k_call ?_); first | refine AL.pcall (g := 20) rfl (by kernel_rfl) rfl (flown_q _) ?_ | refine AL.pcall (g := 21) rfl (by kernel_rfl) rfl ((by first | exact H1 _ _ (.blk 0 _ rfl rfl rfl) | exact H3 _ _ (.blk _ _ rfl rfl rfl))) ?_ | refine AL.pcall (g := 15) rfl (by kernel_rfl) rfl ((by first | exact H2 _ _ (.blk 0 _ rfl rfl rfl) | exact H4 _ _ (.blk _ _ rfl rfl rfl))) ?_ | refine AL.pcall (g := 22) rfl (by kernel_rfl) rfl (H5 _) ?_ | refine AL.pcall (g := 11) rfl (by kernel_rfl) rfl (H6 _) ?_) | ((with_reducible refine AL.k_build ?_); first | refine AL.q rfl (OQ.buildS (ty := 37) (zs := [.string ⟨#[]⟩, .int .i64 0, .slice none 0 0]) (pls := [(0, 1), (1, 1), (2, 1)]) (by kernel_rfl) rfl (by kernel_rfl) rfl rfl rfl) ?_)); (conv => (arg 5; try tactic => exact nrm)))
      | ((first | ((with_reducible refine AL.k_call ?_); first | refine AL.acallW hG (g := 7) rfl (by kernel_rfl) rfl ((by exact (HF _).acalls)) ?_ | refine AL.acallW hG (g := 8) rfl (by kernel_rfl) rfl ((by exact (HP _).acalls)) ?_) | ((with_reducible refine AL.k_alloc ?_); first | refine AL.w rfl (OW.alloc (ty := 25) (z := [.int .i64 0, .int .i64 0, .int .i64 0, .int .i64 0, .int .i64 0]) (by kernel_rfl) rfl) ?_) | ((with_reducible refine AL.k_store ?_); first | (refine AL.w rfl (OW.store (ty := 25) (n := 5) rfl (by conv => lhs; whnf) rfl rfl (by kernel_rfl) rfl rfl (by decide) rfl (Nat.le_of_ble_eq_true rfl) (by intro r h; cases h)) ?_)) | ((with_reducible refine AL.k_box ?_); first | (refine AL.w rfl (OW.box (by conv => lhs; whnf) (by intro r h; cases h)) ?_))); (conv => (arg 5; try tactic => exact nrm)); (conv => (arg 6; try tactic => exact nrm)))
      | (refine AL.bs rfl (fun hc => ?_) (fun hc => ?_) <;> (fail_if_success (with_reducible exact lit_no hc)) <;> (try simp only [decide_eq_true_eq, decide_eq_false_iff_not, Bool.not_true, Bool.not_false, Bool.not_eq_true', Bool.not_eq_false', Int.not_lt, Int.not_le, Classical.not_not, ne_eq] at hc) <;> first | (exfalso; first | contradiction | (first | omega | (simp at hc; done) | (simp_all; done)); done) | (conv => (arg 5; try tactic => exact nrm)))
      | refine AL.nil ?_)
    | ((with_reducible refine AW.on ?_); first
      | refine AW.seq ?_
      | refine AW.skip ?_
      | refine AW.exit ?_
      | refine AW.ret ?_
      | refine AW.block ?_
      | (refine AW.drawF (id := 8) 10 #[0, 1, 0, 0, 15, 31, 63, 63, 0, 383, 1023] (by kernel_rfl) (by kernel_rfl) ?_; (conv => (arg 8; simp only [List.take_succ_cons, List.take_zero])))
      | (refine AW.drawF (id := 13) 14 #[0, 1, 0, 0, 8, 0, 56, 120, 255, 511, 1023, 1023, 0, 6143, 16383] (by kernel_rfl) (by kernel_rfl) ?_; (conv => (arg 8; simp only [List.take_succ_cons, List.take_zero])))
      | (refine AW.drawF (id := 14) 9 #[0, 1, 0, 7, 15, 31, 63, 63, 127, 511] (by kernel_rfl) (by kernel_rfl) ?_; (conv => (arg 8; simp only [List.take_succ_cons, List.take_zero])))
      | (refine AW.drawF (id := 15) 9 #[0, 1, 0, 7, 15, 31, 63, 63, 127, 511] (by kernel_rfl) (by kernel_rfl) ?_; (conv => (arg 8; simp only [List.take_succ_cons, List.take_zero])))
      | (refine AW.draw (id := 25) 16 #[0, 1, 3, 3, 3, 27, 59, 123, 3, 3, 771, 1795, 3843, 8191, 16383, 32767] (by kernel_rfl) (by kernel_rfl) ?_; (conv => (arg 8; simp only [List.take_succ_cons, List.take_zero])))
      | (refine AW.drawF (id := 26) 11 #[0, 1, 0, 0, 8, 31, 63, 127, 127, 0, 767, 2047] (by kernel_rfl) (by kernel_rfl) ?_; (conv => (arg 8; simp only [List.take_succ_cons, List.take_zero])))
      | (refine AW.drawF (id := 27) 11 #[0, 1, 0, 0, 8, 31, 63, 127, 127, 0, 767, 2047] (by kernel_rfl) (by kernel_rfl) ?_; (conv => (arg 8; simp only [List.take_succ_cons, List.take_zero])))
      | (refine AW.region (id := 4) ?_; exfalso; first | omega | (simp at hc; done) | (simp_all; done); done)
      | (refine AW.region (id := 7) ?_; exfalso; first | omega | (simp at hc; done) | (simp_all; done); done)
      | (refine AW.region (id := 10) ?_; exfalso; first | omega | (simp at hc; done) | (simp_all; done); done)
      | refine AW.region ?_
      | (refine AW.conds rfl (fun hc => ?_) (fun hc => ?_) <;> (try simp only [decide_eq_true_eq, decide_eq_false_iff_not, Bool.not_true, Bool.not_false, Bool.not_eq_true', Bool.not_eq_false', Int.not_lt, Int.not_le, Classical.not_not, ne_eq] at hc) <;> first | (exfalso; first | contradiction | (first | omega | (simp at hc; done) | (simp_all; done)); done) | skip))
    | ((with_reducible refine AD.on ?_); first
      | (refine AD.gskip rfl rfl rfl ?_; (conv => (arg 10; try tactic => exact nrm)))
      | ((first | refine AD.gn1 rfl rfl (by with_reducible rfl) rfl ?_ | refine AD.gn0 rfl rfl (by with_reducible rfl) rfl ?_); (conv => (arg 10; try tactic => exact nrm)))
      | ((first | ((with_reducible refine AD.k_move ?_); first | (refine AD.q rfl (OQ.move (by conv => lhs; whnf)) rfl rfl rfl ?_) | (refine AD.qc rfl rfl (by with_reducible rfl) (OQ.move (by conv => lhs; whnf)) rfl rfl rfl ?_)) | ((with_reducible refine AD.k_load ?_); first | (refine AD.qc rfl rfl (by with_reducible rfl) (OQ.load1 (ty := 3) rfl (by kernel_rfl) (by conv => lhs; whnf)) rfl rfl rfl ?_)) | ((with_reducible refine AD.k_assign ?_); first | (refine AD.q rfl (OQ.assign (by conv => lhs; whnf)) rfl rfl rfl ?_)) | ((with_reducible refine AD.k_pick ?_); first | (refine AD.q rfl (OQ.pickT rfl (by with_reducible rfl) (by conv => lhs; whnf)) rfl rfl rfl ?_) | (refine AD.q rfl (OQ.pickF rfl (by with_reducible rfl) (by conv => lhs; whnf)) rfl rfl rfl ?_)) | ((with_reducible refine AD.k_fieldAddr ?_); first | refine AD.qc rfl rfl (by with_reducible rfl) (OQ.fieldA (ty := 60) (i := 0) (n := 1) (off := 0) (g := false) rfl (by kernel_rfl) (by decide)) rfl rfl rfl ?_ | refine AD.qc rfl rfl (by with_reducible rfl) (OQ.fieldA (ty := 60) (i := 1) (n := 1) (off := 1) (g := false) rfl (by kernel_rfl) (by decide)) rfl rfl rfl ?_) | ((with_reducible refine AD.k_indexAddr ?_); first | refine AD.qc rfl rfl (by with_reducible rfl) (OQ.idxAddr (ty := 55) (z := 2) (g := true) rfl rfl (by kernel_rfl) (by omega) (by omega)) rfl rfl rfl ?_)); (conv => (arg 10; try tactic => exact nrm)))
      | ((first | first | refine AD.pcallc (g := 22) rfl rfl (by with_reducible rfl) rfl (by kernel_rfl) rfl (H5 _) rfl rfl ?_); (conv => (arg 10; try tactic => exact nrm)))
      | (refine AD.bs rfl (fun hc => ?_) (fun hc => ?_) <;> (fail_if_success (with_reducible exact lit_no hc)) <;> (try simp only [decide_eq_true_eq, decide_eq_false_iff_not, Bool.not_true, Bool.not_false, Bool.not_eq_true', Bool.not_eq_false', Int.not_lt, Int.not_le, Classical.not_not, ne_eq] at hc) <;> first | (exfalso; first | contradiction | (first | omega | (simp at hc; done) | (simp_all; done)); done) | (conv => (arg 10; try tactic => exact nrm)))
      | (refine AD.gs1 rfl rfl (fun hc => ?_) (fun hc => ?_) <;> (fail_if_success (with_reducible exact lit_no hc)) <;> (try simp only [decide_eq_true_eq, decide_eq_false_iff_not, Bool.not_true, Bool.not_false, Bool.not_eq_true', Bool.not_eq_false', Int.not_lt, Int.not_le, Classical.not_not, ne_eq] at hc) <;> first | (exfalso; first | contradiction | (first | omega | (simp at hc; done) | (simp_all; done)); done) | (conv => (arg 10; try tactic => exact nrm)))
      | (refine AD.gs0 rfl rfl (fun hc => ?_) (fun hc => ?_) <;> (fail_if_success (with_reducible exact lit_no hc)) <;> (try simp only [decide_eq_true_eq, decide_eq_false_iff_not, Bool.not_true, Bool.not_false, Bool.not_eq_true', Bool.not_eq_false', Int.not_lt, Int.not_le, Classical.not_not, ne_eq] at hc) <;> first | (exfalso; first | contradiction | (first | omega | (simp at hc; done) | (simp_all; done)); done) | (conv => (arg 10; try tactic => exact nrm)))
      | (refine AD.nil ?_; (conv => (arg 4; simp only [List.drop_succ_cons, List.drop_zero, List.drop_nil])); (conv => (arg 5; try tactic => exact nrm)); (conv => (arg 6; try tactic => exact nrm))))
    | ((with_reducible refine AF.on ?_); first
      | ((first | ((with_reducible refine AF.k_move ?_); first | (refine AF.q 0 (SW.q (OQ.move (by conv => lhs; whnf)) rfl) ?_)) | ((with_reducible refine AF.k_load ?_); first | refine AF.ql rfl (SW.q (OQ.loadN (ty := 37) (n := 3) rfl (by kernel_rfl) (by kernel_rfl) rfl) rfl) ?_ | refine AF.ql rfl (SW.q (OQ.loadN (ty := 25) (n := 5) rfl (by kernel_rfl) (by kernel_rfl) rfl) rfl) ?_ | (refine AF.ql rfl (SW.q (OQ.load1 (ty := 35) rfl (by kernel_rfl) (by conv => lhs; whnf)) rfl) ?_) | refine AF.ql rfl (SW.q (OQ.loadN (ty := 23) (n := 3) rfl (by kernel_rfl) (by kernel_rfl) rfl) rfl) ?_) | ((with_reducible refine AF.k_assign ?_); first | (refine AF.q 0 (SW.q (OQ.assign (by conv => lhs; whnf)) rfl) ?_)) | ((with_reducible refine AF.k_extract ?_); first | refine AF.q 0 (SW.q (OQ.extract rfl rfl) rfl) ?_) | ((with_reducible refine AF.k_fieldAddr ?_); first | refine AF.q 0 (SW.q (OQ.fieldA (ty := 37) (i := 2) (n := 1) (off := 2) (g := false) rfl (by kernel_rfl) (by decide)) rfl) ?_ | refine AF.q 0 (SW.q (OQ.fieldA (ty := 25) (i := 1) (n := 3) (off := 1) (g := true) rfl (by kernel_rfl) (by decide)) rfl) ?_) | ((with_reducible refine AF.k_indexAddr ?_); first | refine AF.q 0 (SW.q (OQ.idxAddr (ty := 35) (z := 5) (g := true) rfl rfl (by kernel_rfl) (by omega) (by omega)) rfl) ?_)); (conv => (arg 9; try tactic => exact nrmF)); (conv => (arg 11; try simp only [List.nil_append, List.cons_append])))
      | ((first | ((with_reducible refine AF.k_call ?_); first | refine AF.n1 2 (SW.acall (g := 14) rfl (by kernel_rfl) rfl ((by exact Copy_q nm bd (l := l) (.blk 0 _ rfl rfl rfl) (by omega))) rfl) rfl ?_ | refine AF.n1 2 (SW.acall (g := 23) rfl (by kernel_rfl) rfl ((by exact HC _ _ _ rfl rfl)) rfl) rfl ?_) | ((with_reducible refine AF.k_alloc ?_); first | refine AF.n1 0 (SW.w (OW.alloc (ty := 37) (z := [.string ⟨#[]⟩, .int .i64 0, .slice none 0 0]) (by kernel_rfl) rfl) rfl) rfl ?_ | refine AF.n1 0 (SW.w (OW.alloc (ty := 60) (z := [.int .i64 0, .int .i64 0]) (by kernel_rfl) rfl) rfl) rfl ?_) | ((with_reducible refine AF.k_store ?_); first | (refine AF.sl rfl (SW.w (OW.store (ty := 37) (n := 3) rfl (by conv => lhs; whnf) rfl rfl (by kernel_rfl) rfl rfl (by decide) rfl (Nat.le_of_ble_eq_true rfl) (by intro r h; cases h)) rfl) rfl ?_) | (refine AF.sl rfl (SW.w (OW.store (ty := 60) (n := 2) rfl (by conv => lhs; whnf) rfl rfl (by kernel_rfl) rfl rfl (by decide) rfl (Nat.le_of_ble_eq_true rfl) (by intro r h; cases h)) rfl) rfl ?_))); (conv => (arg 9; try tactic => exact nrmF)); (conv => (arg 11; try simp only [List.nil_append, List.cons_append])); (conv => (arg 10; try tactic => exact nrmF)))
      | (refine AF.nil ?_ (by kernel_rfl); (conv => (arg 4; simp only [List.drop_succ_cons, List.drop_zero, List.drop_nil]))))
    | ((with_reducible refine FinJ.on ?_); ((first | refine FinJ.ret (.tmp (by conv => lhs; whnf) .nil) ?_ | refine FinJ.end (.tmp (by conv => lhs; whnf) .nil) ?_); (refine (fun hh => hh ▸ jle_flat rfl : ∀ {x : Bool}, x = true → jle (.bool true) (pack [.bool x])) ?_); first | rfl | exact decide_eq_true rfl | exact decide_eq_true trivial)))
end
end Go.Proofs.YthhhkjbhhjcjoaaGreatDoor
end
end
