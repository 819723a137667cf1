/- OrbitAgrees: the walks of the statement. -/
/- OrbitAgrees: the main walks of the statement. -/
/- OrbitAgrees: how its arguments read; the statement. -/
import Derived.Test.Ythpjhpfebjjanaa02tf
import Derived.Test.Ythpjhpfebjjanaa02Rg2
import Derived.Test.Ythpjhpfebjjanaa02Gl
set_option linter.unusedSimpArgs false
set_option linter.unusedVariables false
section
namespace Go.Proofs.Ythpjhpfebjjanaa
open Go Go.RowKit Go.Ob Go.Ab
set_option maxRecDepth 100000
set_option maxHeartbeats 4000000
theorem brief_t {m : Mem} {v : Value} {l : List St} {nm : ByteArray} {bd : Int} (hS : SlB m v l) (hwf : ∀ k, k < l.length → -9223372036854775808 ≤ (at_ l k).t ∧ (at_ l k).t ≤ 9223372036854775807) (hl : (l.length : Int) ≤ 9223372036854775807) (hnm : (nm.size : Int) ≤ 9223372036854775807) :
    PCalls Try.prog 17 [obW nm bd v] m (.bool (fewB nm.size l.length && briefB nm.data.toList bd l)) := by
  intro ρ args' w hdom hargs hm
  obtain ⟨xs', e, h1, hg⟩ := hargs.tuple_inv
  cases e
  obtain ⟨u, e0, r0⟩ := hg 0 _ rfl
  obtain ⟨cs, rfl, hs, hg'⟩ := r0.agg_inv
  obtain ⟨u0, f0, q0⟩ := hg' 0 _ rfl
  obtain ⟨u1, f1, q1⟩ := hg' 1 _ rfl
  obtain ⟨u2, f2, q2⟩ := hg' 2 _ rfl
  obtain ⟨a, cap, rfl, hSt, hcap⟩ := hS.real hwf hm q2
  have hcs : cs = #[.string nm, .int .i64 bd, .slice a l.length cap] := by
    refine Array.ext_getElem? fun i => ?_
    match i with
    | 0 => rw [f0, q0.string]; rfl
    | 1 => rw [f1, q1.int]; rfl
    | 2 => exact f2
    | i + 3 => rw [Array.getElem?_eq_none (by simp at hs; omega), Array.getElem?_eq_none (by simp)]
  have : args' = #[obV nm bd a l.length cap] := by
    refine Array.ext_getElem? fun i => ?_
    match i with
    | 0 => rw [e0, hcs]; rfl
    | i + 1 => rw [Array.getElem?_eq_none (by simp at h1; omega), Array.getElem?_eq_none (by simp)]
  subst this
  cases hf : fewB nm.size l.length with
  | false => exact (Brief_no nm bd a l.length cap w hl hnm hf).mono fun e w' ⟨he, hb⟩ => ⟨_, he, .scal rfl, hb⟩
  | true => exact (Brief_yes nm bd a cap l w ⟨by have := (fewB_spec hf).1; omega, hSt, hcap, by omega⟩ hf).mono fun e w' ⟨he, hb⟩ => ⟨_, he, .scal rfl, hb⟩

abbrev prP (nm1 : ByteArray) (bd1 : Int) (v1 : Value) (nm2 : ByteArray) (bd2 : Int) (v2 : Value) : Value := .agg #[.string nm1, .int .i64 bd1, v1, .string nm2, .int .i64 bd2, v2]
theorem ro_two (l1 l2 : List St) : Mem.ro [bl l1, bl l2] := fun k blk hk => by
  have := Mem.at_lt hk
  match k, this with
  | 0, _ => exact bl_ro l1 _ hk
  | 1, _ => exact bl_ro l2 _ hk
  | k + 2, h => exact absurd h (by simp)
section
variable {l1 l2 : List St} {nm1 nm2 : ByteArray} {bd1 bd2 : Int}
attribute [local irreducible] OQ OW AL AW AD AF SW
/-- An orbit that is not brief. -/
theorem AgL_no (t : Int) (g1 g2 : Bool) (w1 : ∀ k, k < l1.length → -9223372036854775808 ≤ (at_ l1 k).t ∧ (at_ l1 k).t ≤ 9223372036854775807) (w2 : ∀ k, k < l2.length → -9223372036854775808 ≤ (at_ l2 k).t ∧ (at_ l2 k).t ≤ 9223372036854775807)
    (c1 : (l1.length : Int) ≤ 9223372036854775807) (c2 : (l2.length : Int) ≤ 9223372036854775807) (n1 : (nm1.size : Int) ≤ 9223372036854775807) (n2 : (nm2.size : Int) ≤ 9223372036854775807)
    (hf : ((fewB nm1.size l1.length && briefB nm1.data.toList bd1 l1) && (fewB nm2.size l2.length && briefB nm2.data.toList bd2 l2)) = false) :
    PCalls Try.prog 13 [prP nm1 bd1 (va 0 l1 g1) nm2 bd2 (va 1 l2 g2), .int .i64 t] [bl l1, bl l2] (.bool true) := by
  have H1 := fun (m : Mem) (v : Value) (hS : SlB m v l1) => brief_t (bd := bd1) hS w1 c1 n1
  have H2 := fun (m : Mem) (v : Value) (hS : SlB m v l2) => brief_t (bd := bd2) hS w2 c2 n2
  generalize (fewB nm1.size l1.length && briefB nm1.data.toList bd1 l1) = b1 at *
  generalize (fewB nm2.size l2.length && briefB nm2.data.toList bd2 l2) = b2 at *
  refine PCalls.enter (t := [prP nm1 bd1 (va 0 l1 g1) nm2 bd2 (va 1 l2 g2), .int .i64 t, undef, undef, undef, undef, undef, undef, undef, undef, undef, undef, undef, undef, undef, undef, undef, undef, undef, undef, undef, undef, undef, undef, undef, undef, undef, undef, undef, undef, undef, undef, undef, undef, undef, undef, undef, undef, undef, undef, undef, undef, undef, undef, undef, undef, undef, undef, undef, undef, undef, undef, undef, undef, undef, undef, undef, undef, undef, undef, undef, undef, undef, undef, undef, undef, undef, undef, undef, undef, undef, undef, undef, undef, undef, undef, undef, undef, undef, undef, undef, undef, undef, undef, undef, undef, undef, undef, undef, undef, undef, undef, undef, undef, undef, undef, undef, undef, undef, undef, undef, undef, undef, undef, undef, undef, undef, undef, undef, undef, undef, undef, undef, undef, undef, undef, undef, undef, undef, undef, undef, undef, undef, undef, undef, undef, undef, undef, undef, undef, undef, undef, undef, undef, undef, undef, undef, undef, undef, undef, undef, undef, undef, undef, undef, undef, undef, undef, undef, undef, undef, undef, undef, undef, undef]) Try.func13 rfl (ro_two _ _) rfl fun E => ?_
  repeat' (first
    | with_reducible refine Then.n ?_
    | with_reducible refine Then.r ?_
    | with_reducible refine Then.x ?_
    | with_reducible refine InB.n ?_
    | with_reducible refine InB.r ?_
    | with_reducible refine InB.hit ?_
    | with_reducible refine InB.miss (by decide) ?_
    | ((with_reducible refine AL.on ?_); first
      | (refine AL.gd rfl ?_; first | (refine AL.gskip rfl rfl ?_; (conv => (arg 5; try tactic => exact nrm))) | (refine AL.gs1 rfl rfl (fun hc => ?_) (fun hc => ?_) <;> (try simp only [decide_eq_true_eq, decide_eq_false_iff_not, Bool.not_true, Bool.not_false, Bool.not_eq_true', Bool.not_eq_false', Int.not_lt, Int.not_le, Classical.not_not, ne_eq] at hc) <;> first | (exfalso; first | contradiction | (first | omega | (simp_all; done)); done) | (conv => (arg 5; try tactic => exact nrm))) | (refine AL.gs0 rfl rfl (fun hc => ?_) (fun hc => ?_) <;> (try simp only [decide_eq_true_eq, decide_eq_false_iff_not, Bool.not_true, Bool.not_false, Bool.not_eq_true', Bool.not_eq_false', Int.not_lt, Int.not_le, Classical.not_not, ne_eq] at hc) <;> first | (exfalso; first | contradiction | (first | omega | (simp_all; done)); done) | (conv => (arg 5; try tactic => exact nrm))))
      | ((first | ((with_reducible refine AL.k_move ?_); first | (refine AL.q rfl (OQ.move (by conv => lhs; whnf)) ?_)) | ((with_reducible refine AL.k_call ?_); first | refine AL.q rfl (OQ.lenS (xt := 29) (r := (none, 2, true)) rfl (by kernel_rfl)) ?_) | ((with_reducible refine AL.k_fieldAddr ?_); first | refine AL.q rfl (OQ.fieldA (ty := 95) (i := 0) (n := 3) (off := 0) (g := true) rfl (by kernel_rfl) (by decide)) ?_ | refine AL.q rfl (OQ.fieldA (ty := 95) (i := 1) (n := 3) (off := 3) (g := true) rfl (by kernel_rfl) (by decide)) ?_) | ((with_reducible refine AL.k_load ?_); first | refine AL.q rfl (OQ.loadN (ty := 24) (n := 3) rfl (by kernel_rfl) (by kernel_rfl) rfl) ?_) | ((with_reducible refine AL.k_assign ?_); first | (refine AL.q rfl (OQ.assign (by conv => lhs; whnf)) ?_)) | ((with_reducible refine AL.k_binOp ?_); first | refine AL.q rfl (OQ.eql rfl rfl) ?_ | refine AL.q rfl (OQ.neq rfl rfl) ?_) | ((with_reducible refine AL.k_pick ?_); first | (refine AL.q rfl (OQ.pickT rfl (by with_reducible rfl) (by conv => lhs; whnf)) ?_) | (refine AL.q rfl (OQ.pickF rfl (by with_reducible rfl) (by conv => lhs; whnf)) ?_)) | ((with_reducible refine AL.k_unOp ?_); first | refine AL.q rfl (OQ.not rfl) ?_)); (conv => (arg 5; try tactic => exact nrm)))
      | ((first | first | refine AL.pcall (g := 16) rfl (by kernel_rfl) rfl (awake_q _) ?_ | refine AL.pcall (g := 17) rfl (by kernel_rfl) rfl ((by first | exact H1 _ _ (SlB.arg (.inl rfl)) | exact H2 _ _ (SlB.arg (.inl rfl)))) ?_); (conv => (arg 5; try tactic => exact nrm)))
      | ((first | first | (refine AL.w rfl (OW.box (by conv => lhs; whnf) (by intro r h; cases h)) ?_)); (conv => (arg 5; try tactic => exact nrm)); (conv => (arg 6; try tactic => exact nrm)))
      | (refine AL.bs rfl (fun hc => ?_) (fun hc => ?_) <;> (fail_if_success (with_reducible exact lit_no hc)) <;> (try simp only [decide_eq_true_eq, decide_eq_false_iff_not, Bool.not_true, Bool.not_false, Bool.not_eq_true', Bool.not_eq_false', Int.not_lt, Int.not_le, Classical.not_not, ne_eq] at hc) <;> first | (exfalso; first | contradiction | (first | omega | (simp_all; done)); done) | (conv => (arg 5; try tactic => exact nrm)))
      | refine AL.nil ?_)
    | ((with_reducible refine AW.on ?_); first
      | refine AW.seq ?_
      | refine AW.skip ?_
      | refine AW.exit ?_
      | refine AW.ret ?_
      | refine AW.block ?_
      | (refine AW.draw (id := 5) 13 #[0, 1, 3, 0, 8, 31, 0, 127, 255, 511, 511, 1023, 4095] (by kernel_rfl) (by kernel_rfl) ?_; (conv => (arg 8; simp only [List.take_succ_cons, List.take_zero])))
      | (refine AW.draw (id := 6) 12 #[0, 1, 3, 0, 8, 31, 63, 127, 255, 255, 511, 2047] (by kernel_rfl) (by kernel_rfl) ?_; (conv => (arg 8; simp only [List.take_succ_cons, List.take_zero])))
      | (refine AW.draw (id := 12) 12 #[0, 1, 3, 0, 8, 31, 63, 127, 255, 255, 511, 2047] (by kernel_rfl) (by kernel_rfl) ?_; (conv => (arg 8; simp only [List.take_succ_cons, List.take_zero])))
      | (refine AW.draw (id := 13) 12 #[0, 1, 3, 0, 8, 31, 63, 127, 255, 255, 511, 2047] (by kernel_rfl) (by kernel_rfl) ?_; (conv => (arg 8; simp only [List.take_succ_cons, List.take_zero])))
      | refine AW.region ?_
      | (refine AW.conds rfl (fun hc => ?_) (fun hc => ?_) <;> (try simp only [decide_eq_true_eq, decide_eq_false_iff_not, Bool.not_true, Bool.not_false, Bool.not_eq_true', Bool.not_eq_false', Int.not_lt, Int.not_le, Classical.not_not, ne_eq] at hc) <;> first | (exfalso; first | contradiction | (first | omega | (simp_all; done)); done) | skip))
    | ((with_reducible refine AD.on ?_); first
      | ((first | ((with_reducible refine AD.k_move ?_); first | (refine AD.q rfl (OQ.move (by conv => lhs; whnf)) rfl rfl rfl ?_)) | ((with_reducible refine AD.k_fieldAddr ?_); first | refine AD.q rfl (OQ.fieldA (ty := 95) (i := 0) (n := 3) (off := 0) (g := true) rfl (by kernel_rfl) (by decide)) rfl rfl rfl ?_ | refine AD.q rfl (OQ.fieldA (ty := 95) (i := 1) (n := 3) (off := 3) (g := true) rfl (by kernel_rfl) (by decide)) rfl rfl rfl ?_) | ((with_reducible refine AD.k_load ?_); first | refine AD.q rfl (OQ.loadN (ty := 24) (n := 3) rfl (by kernel_rfl) (by kernel_rfl) rfl) rfl rfl rfl ?_) | ((with_reducible refine AD.k_assign ?_); first | (refine AD.q rfl (OQ.assign (by conv => lhs; whnf)) rfl rfl rfl ?_)) | ((with_reducible refine AD.k_extract ?_); first | refine AD.q rfl (OQ.extract rfl rfl) rfl rfl rfl ?_)); (conv => (arg 10; try tactic => exact nrm)))
      | (refine AD.nil ?_; (conv => (arg 4; simp only [List.drop_succ_cons, List.drop_zero, List.drop_nil])); (conv => (arg 5; try tactic => exact nrm)); (conv => (arg 6; try tactic => exact nrm))))
    | ((with_reducible refine FinP.on ?_); (first | refine FinP.ret (.tmp (by conv => lhs; whnf) .nil) ?_ rfl | refine FinP.end (.tmp (by conv => lhs; whnf) .nil) ?_ rfl); (try simp only [pack, List.drop, List.take]); all_goals (rfl)))
/-- An orbit that is wrong. -/
theorem AgL_e (t : Int) (g1 g2 : Bool) (ho1 : Ors nm1 l1) (ho2 : Ors nm2 l2) (e1 e2 : Int) (he1 : (orbE nm1.data.toList bd1 l1).2 = e1) (he2 : (orbE nm2.data.toList bd2 l2).2 = e2)
    (hf1 : (fewB nm1.size l1.length && briefB nm1.data.toList bd1 l1) = true) (hf2 : (fewB nm2.size l2.length && briefB nm2.data.toList bd2 l2) = true) (h42 : l1.length ≤ 1000 ∧ l2.length ≤ 1000) (hc : firstE [e1, e2] ≠ 0) :
    PCalls Try.prog 13 [prP nm1 bd1 (va 0 l1 g1) nm2 bd2 (va 1 l2 g2), .int .i64 t] [bl l1, bl l2] (.bool true) := by
  have hn1 := ho1.nm
  have hn2 := ho2.nm
  have H1 := fun (m : Mem) (v : Value) (hS : SlB m v l1) => brief_t (nm := nm1) (bd := bd1) hS ho1.wf (by omega) (by omega)
  have H2 := fun (m : Mem) (v : Value) (hS : SlB m v l2) => brief_t (nm := nm2) (bd := bd2) hS ho2.wf (by omega) (by omega)
  rw [hf1] at H1
  rw [hf2] at H2
  have H3 := fun (m : Mem) (v : Value) (hS : SlB m v l1) => Err_q (bd := bd1) hS ho1
  have H4 := fun (m : Mem) (v : Value) (hS : SlB m v l2) => Err_q (bd := bd2) hS ho2
  have HA := fun (z1 z2 : Nat) => Agree_e t z1 z2 ho1 ho2 (bd1 := bd1) (bd2 := bd2) (by rw [he1, he2]; exact hc)
  have HT := fun (z1 z2 : Nat) => Touched_e z1 z2 ho1 ho2 (bd1 := bd1) (bd2 := bd2) (by rw [he1, he2]; exact hc)
  rw [he1] at H3 HA HT
  rw [he2] at H4 HA HT
  have hce : firstE [e1, e2] = if e1 = 0 then e2 else e1 := by
    unfold firstE firstE firstE
    by_cases h : e1 = 0 <;> by_cases h' : e2 = 0 <;> simp [h, h']
  rw [hce] at HA HT hc
  clear hce he1 he2 hf1 hf2
  generalize hcc : (if e1 = 0 then e2 else e1) = c at *
  refine PCalls.enter (t := [prP nm1 bd1 (va 0 l1 g1) nm2 bd2 (va 1 l2 g2), .int .i64 t, undef, undef, undef, undef, undef, undef, undef, undef, undef, undef, undef, undef, undef, undef, undef, undef, undef, undef, undef, undef, undef, undef, undef, undef, undef, undef, undef, undef, undef, undef, undef, undef, undef, undef, undef, undef, undef, undef, undef, undef, undef, undef, undef, undef, undef, undef, undef, undef, undef, undef, undef, undef, undef, undef, undef, undef, undef, undef, undef, undef, undef, undef, undef, undef, undef, undef, undef, undef, undef, undef, undef, undef, undef, undef, undef, undef, undef, undef, undef, undef, undef, undef, undef, undef, undef, undef, undef, undef, undef, undef, undef, undef, undef, undef, undef, undef, undef, undef, undef, undef, undef, undef, undef, undef, undef, undef, undef, undef, undef, undef, undef, undef, undef, undef, undef, undef, undef, undef, undef, undef, undef, undef, undef, undef, undef, undef, undef, undef, undef, undef, undef, undef, undef, undef, undef, undef, undef, undef, undef, undef, undef, undef, undef, undef, undef, undef, undef, undef, undef, undef, undef, undef, undef]) Try.func13 rfl (ro_two _ _) rfl fun E => ?_
  repeat' (first
    | with_reducible refine Then.n ?_
    | with_reducible refine Then.r ?_
    | with_reducible refine Then.x ?_
    | with_reducible refine InB.n ?_
    | with_reducible refine InB.r ?_
    | with_reducible refine InB.hit ?_
    | with_reducible refine InB.miss (by decide) ?_
    | ((with_reducible refine AL.on ?_); first
      | (refine AL.gd rfl ?_; first | (refine AL.gskip rfl rfl ?_; (conv => (arg 5; try tactic => exact nrm))) | (refine AL.gs1 rfl rfl (fun hc => ?_) (fun hc => ?_) <;> (try simp only [decide_eq_true_eq, decide_eq_false_iff_not, Bool.not_true, Bool.not_false, Bool.not_eq_true', Bool.not_eq_false', Int.not_lt, Int.not_le, Classical.not_not, ne_eq] at hc) <;> first | (exfalso; first | contradiction | (first | omega | (simp_all; done)); done) | (conv => (arg 5; try tactic => exact nrm))) | (refine AL.gs0 rfl rfl (fun hc => ?_) (fun hc => ?_) <;> (try simp only [decide_eq_true_eq, decide_eq_false_iff_not, Bool.not_true, Bool.not_false, Bool.not_eq_true', Bool.not_eq_false', Int.not_lt, Int.not_le, Classical.not_not, ne_eq] at hc) <;> first | (exfalso; first | contradiction | (first | omega | (simp_all; done)); done) | (conv => (arg 5; try tactic => exact nrm))))
      | ((first | ((with_reducible refine AL.k_move ?_); first | (refine AL.q rfl (OQ.move (by conv => lhs; whnf)) ?_)) | ((with_reducible refine AL.k_call ?_); first | refine AL.q rfl (OQ.lenS (xt := 29) (r := (none, 2, true)) rfl (by kernel_rfl)) ?_) | ((with_reducible refine AL.k_fieldAddr ?_); first | refine AL.q rfl (OQ.fieldA (ty := 95) (i := 0) (n := 3) (off := 0) (g := true) rfl (by kernel_rfl) (by decide)) ?_ | refine AL.q rfl (OQ.fieldA (ty := 95) (i := 1) (n := 3) (off := 3) (g := true) rfl (by kernel_rfl) (by decide)) ?_) | ((with_reducible refine AL.k_load ?_); first | refine AL.q rfl (OQ.loadN (ty := 24) (n := 3) rfl (by kernel_rfl) (by kernel_rfl) rfl) ?_) | ((with_reducible refine AL.k_assign ?_); first | (refine AL.q rfl (OQ.assign (by conv => lhs; whnf)) ?_)) | ((with_reducible refine AL.k_binOp ?_); first | refine AL.q rfl (OQ.eql rfl rfl) ?_ | refine AL.q rfl (OQ.neq rfl rfl) ?_) | ((with_reducible refine AL.k_pick ?_); first | (refine AL.q rfl (OQ.pickT rfl (by with_reducible rfl) (by conv => lhs; whnf)) ?_) | (refine AL.q rfl (OQ.pickF rfl (by with_reducible rfl) (by conv => lhs; whnf)) ?_)) | ((with_reducible refine AL.k_unOp ?_); first | refine AL.q rfl (OQ.not rfl) ?_)); (conv => (arg 5; try tactic => exact nrm)))
      | ((first | first | refine AL.pcall (g := 16) rfl (by kernel_rfl) rfl (awake_q _) ?_ | refine AL.pcall (g := 17) rfl (by kernel_rfl) rfl ((by first | exact H1 _ _ (SlB.arg (.inl rfl)) | exact H2 _ _ (SlB.arg (.inl rfl)))) ?_ | refine AL.pcall (g := 20) rfl (by kernel_rfl) rfl ((by first | exact H3 _ _ (SlB.arg (.inl rfl)) | exact H4 _ _ (SlB.arg (.inl rfl)))) ?_); (conv => (arg 5; try tactic => exact nrm)))
      | ((first | first | (refine AL.w rfl (OW.box (by conv => lhs; whnf) (by intro r h; cases h)) ?_)); (conv => (arg 5; try tactic => exact nrm)); (conv => (arg 6; try tactic => exact nrm)))
      | (refine AL.bs rfl (fun hc => ?_) (fun hc => ?_) <;> (fail_if_success (with_reducible exact lit_no hc)) <;> (try simp only [decide_eq_true_eq, decide_eq_false_iff_not, Bool.not_true, Bool.not_false, Bool.not_eq_true', Bool.not_eq_false', Int.not_lt, Int.not_le, Classical.not_not, ne_eq] at hc) <;> first | (exfalso; first | contradiction | (first | omega | (simp_all; done)); done) | (conv => (arg 5; try tactic => exact nrm)))
      | refine AL.nil ?_)
    | ((with_reducible refine AW.on ?_); first
      | refine AW.seq ?_
      | refine AW.skip ?_
      | refine AW.exit ?_
      | refine AW.ret ?_
      | refine AW.block ?_
      | (refine AW.drawF (id := 5) 12 #[0, 1, 3, 0, 8, 31, 0, 127, 255, 511, 511, 1023, 4095] (by kernel_rfl) (by kernel_rfl) ?_; (conv => (arg 8; simp only [List.take_succ_cons, List.take_zero])))
      | (refine AW.drawF (id := 6) 11 #[0, 1, 3, 0, 8, 31, 63, 127, 255, 255, 511, 2047] (by kernel_rfl) (by kernel_rfl) ?_; (conv => (arg 8; simp only [List.take_succ_cons, List.take_zero])))
      | (refine AW.drawF (id := 12) 11 #[0, 1, 3, 0, 8, 31, 63, 127, 255, 255, 511, 2047] (by kernel_rfl) (by kernel_rfl) ?_; (conv => (arg 8; simp only [List.take_succ_cons, List.take_zero])))
      | (refine AW.drawF (id := 13) 11 #[0, 1, 3, 0, 8, 31, 63, 127, 255, 255, 511, 2047] (by kernel_rfl) (by kernel_rfl) ?_; (conv => (arg 8; simp only [List.take_succ_cons, List.take_zero])))
      | (refine AW.region (id := 4) ?_; exfalso; first | omega | (simp_all; done); done)
      | refine AW.region ?_
      | (refine AW.conds rfl (fun hc => ?_) (fun hc => ?_) <;> (try simp only [decide_eq_true_eq, decide_eq_false_iff_not, Bool.not_true, Bool.not_false, Bool.not_eq_true', Bool.not_eq_false', Int.not_lt, Int.not_le, Classical.not_not, ne_eq] at hc) <;> first | (exfalso; first | contradiction | (first | omega | (simp_all; done)); done) | skip))
    | ((with_reducible refine AF.on ?_); first
      | ((first | ((with_reducible refine AF.k_move ?_); first | (refine AF.q 0 (SW.q (OQ.move (by conv => lhs; whnf)) rfl) ?_)) | ((with_reducible refine AF.k_call ?_); first | refine AF.q 2 (SW.pcall (g := 57) rfl (by kernel_rfl) rfl ((by exact two_v HA rfl rfl rfl rfl rfl rfl rfl rfl)) rfl) ?_ | refine AF.q 2 (SW.pcall (g := 58) rfl (by kernel_rfl) rfl ((by exact two_v HT rfl rfl rfl rfl rfl rfl rfl rfl)) rfl) ?_) | ((with_reducible refine AF.k_fieldAddr ?_); first | refine AF.q 0 (SW.q (OQ.fieldA (ty := 95) (i := 0) (n := 3) (off := 0) (g := true) rfl (by kernel_rfl) (by decide)) rfl) ?_ | refine AF.q 0 (SW.q (OQ.fieldA (ty := 95) (i := 1) (n := 3) (off := 3) (g := true) rfl (by kernel_rfl) (by decide)) rfl) ?_) | ((with_reducible refine AF.k_load ?_); first | refine AF.ql rfl (SW.q (OQ.loadN (ty := 24) (n := 3) rfl (by kernel_rfl) (by kernel_rfl) rfl) rfl) ?_) | ((with_reducible refine AF.k_assign ?_); first | (refine AF.q 0 (SW.q (OQ.assign (by conv => lhs; whnf)) rfl) ?_)) | ((with_reducible refine AF.k_extract ?_); first | refine AF.q 0 (SW.q (OQ.extract rfl rfl) rfl) ?_)); (conv => (arg 9; try tactic => exact nrmF)); (conv => (arg 11; try simp only [List.nil_append, List.cons_append])))
      | ((first | first | refine AF.n1 2 (SW.acall (g := 19) rfl (by kernel_rfl) rfl ((by first | exact Copy_q nm1 bd1 (l := l1) (SlB.arg (by first | exact .inl rfl | exact .inr rfl)) (by omega) | exact Copy_q nm2 bd2 (l := l2) (SlB.arg (by first | exact .inl rfl | exact .inr rfl)) (by omega))) rfl) rfl ?_); (conv => (arg 9; try tactic => exact nrmF)); (conv => (arg 11; try simp only [List.nil_append, List.cons_append])); (conv => (arg 10; try tactic => exact nrmF)))
      | (refine AF.nil ?_ (by kernel_rfl); (conv => (arg 4; simp only [List.drop_succ_cons, List.drop_zero, List.drop_nil]))))
    | ((with_reducible refine FinP.on ?_); (first | refine FinP.ret (.tmp (by conv => lhs; whnf) .nil) ?_ rfl | refine FinP.end (.tmp (by conv => lhs; whnf) .nil) ?_ rfl); (try simp only [pack, List.drop, List.take]); all_goals ((first | rfl | simp_all))))
end
end Go.Proofs.Ythpjhpfebjjanaa
end

section
namespace Go.Proofs.Ythpjhpfebjjanaa
open Go Go.RowKit Go.Ob Go.Ab
set_option maxRecDepth 100000
set_option maxHeartbeats 4000000
section
variable {l1 l2 : List St} {nm1 nm2 : ByteArray} {bd1 bd2 : Int}
attribute [local irreducible] OQ OW AL AW AD AF SW
/-- Two right orbits, which differ nowhere. -/
theorem AgL_0 (t : Int) (hn1 : nm1.size ≤ 1000) (hn2 : nm2.size ≤ 1000) (hR1 : Right bd1 l1) (hR2 : Right bd2 l2) (he1 : (orbE nm1.data.toList bd1 l1).2 = 0) (he2 : (orbE nm2.data.toList bd2 l2).2 = 0)
    (hf1 : (fewB nm1.size l1.length && briefB nm1.data.toList bd1 l1) = true) (hf2 : (fewB nm2.size l2.length && briefB nm2.data.toList bd2 l2) = true)
    (hT12 : ∀ z1 z2, PCalls Try.prog 58 [obI nm1 bd1 0 l1, obI nm2 bd2 1 l2] (two l1 l2 z1 z2) (.tuple #[.slice none 0 0, .int .i64 0]))
    (hT21 : ∀ z1 z2, PCalls Try.prog 58 [obI nm2 bd2 0 l2, obI nm1 bd1 1 l1] (two l2 l1 z1 z2) (.tuple #[.slice none 0 0, .int .i64 0]))
    (hRT : ∀ z1 z2, ACalls Try.prog 59 [obI nm1 bd1 0 l1, obI nm2 bd2 1 l2] (two l1 l2 z1 z2) (rgV 2 []) [some ⟨flatS l1, false, z1⟩, some ⟨flatS l2, false, z2⟩, rgB []])
    (hT11 : ∀ z1 z2, PCalls Try.prog 58 [obI nm1 bd1 0 l1, obI nm1 bd1 1 l1] (two l1 l1 z1 z2) (.tuple #[.slice none 0 0, .int .i64 0]))
    (n e : Int) (hA : ∀ z1 z2, PCalls Try.prog 57 [obI nm1 bd1 0 l1, obI nm2 bd2 1 l2, .int .i64 t] (two l1 l2 z1 z2) (.tuple #[.int .i64 n, .int .i64 e]))
    (hxy : ((rngB t (frstT l1) (lastT l1) && rngB t (frstT l2) (lastT l2)) = true ∧ e = 0 ∧ ∀ z1 z2, PCalls Try.prog 61 [obI nm1 bd1 0 l1, obI nm2 bd2 1 l2, .int .i64 t] (two l1 l2 z1 z2) (.int .i64 n)) ∨ ((rngB t (frstT l1) (lastT l1) && rngB t (frstT l2) (lastT l2)) = false ∧ e = 2 ∧ n = 0)) :
    PCalls Try.prog 13 [prP nm1 bd1 (.slice (some ⟨0, 0, none⟩) l1.length INF) nm2 bd2 (.slice (some ⟨1, 0, none⟩) l2.length INF), .int .i64 t] (two l1 l2 0 0) (.bool true) := by
  have ho1 := Ors.of_right hn1 hR1
  have ho2 := Ors.of_right hn2 hR2
  have h401 := hR1.n40
  have h402 := hR2.n40
  have H1 := fun (m : Mem) (v : Value) (hS : SlB m v l1) => brief_t (nm := nm1) (bd := bd1) hS ho1.wf (by omega) (by omega)
  have H2 := fun (m : Mem) (v : Value) (hS : SlB m v l2) => brief_t (nm := nm2) (bd := bd2) hS ho2.wf (by omega) (by omega)
  rw [hf1] at H1
  rw [hf2] at H2
  have H3 := fun (m : Mem) (v : Value) (hS : SlB m v l1) => Err_q (bd := bd1) hS ho1
  have H4 := fun (m : Mem) (v : Value) (hS : SlB m v l2) => Err_q (bd := bd2) hS ho2
  rw [he1] at H3
  rw [he2] at H4
  have H5 := fun (m : Mem) (v : Value) (hS : SlB m v l1) => Has_q (nm := nm1) (bd := bd1) hS ho1 hR1 t
  have H6 := fun (m : Mem) (v : Value) (hS : SlB m v l2) => Has_q (nm := nm2) (bd := bd2) hS ho2 hR2 t
  have HRg : ∀ (m : Mem), PCalls Try.prog 23 [.slice none 0 0, .slice none 0 0] m (.bool true) := fun m => by
    have := Ranges_q (m := m) (b := m.length) (c := m.length) (L := []) (M := []) (by simp [Mem.at, rgB]) (by simp [Mem.at, rgB]) (by simp) (by simp)
    rwa [show decide (([] : List (Int × Int)) = []) = true by simp] at this
  have HRT : ∀ (m : Mem) (i j : Nat) (b1 b2 : Blk) (h1 : m.at i = some b1) (c1 : b1.cells = flatS l1) (h2 : m.at j = some b2) (c2 : b2.cells = flatS l2), ACalls Try.prog 59 [obI nm1 bd1 i l1, obI nm2 bd2 j l2] m (.slice none 0 0) (m ++ [none]) := fun m i j b1 b2 h1 c1 h2 c2 => two_r hRT h1 c1 h2 c2
  clear he1 he2 hf1 hf2 hR1 hR2
  generalize rngB t (frstT l1) (lastT l1) = x at *
  generalize rngB t (frstT l2) (lastT l2) = y at *
  rcases hxy with ⟨hx, rfl, HRA⟩ | ⟨hx, rfl, rfl⟩
  · obtain ⟨rfl, rfl⟩ : x = true ∧ y = true := by simpa using hx
    refine PCalls.enter (t := [prP nm1 bd1 (.slice (some ⟨0, 0, none⟩) l1.length INF) nm2 bd2 (.slice (some ⟨1, 0, none⟩) l2.length INF), .int .i64 t, undef, undef, undef, undef, undef, undef, undef, undef, undef, undef, undef, undef, undef, undef, undef, undef, undef, undef, undef, undef, undef, undef, undef, undef, undef, undef, undef, undef, undef, undef, undef, undef, undef, undef, undef, undef, undef, undef, undef, undef, undef, undef, undef, undef, undef, undef, undef, undef, undef, undef, undef, undef, undef, undef, undef, undef, undef, undef, undef, undef, undef, undef, undef, undef, undef, undef, undef, undef, undef, undef, undef, undef, undef, undef, undef, undef, undef, undef, undef, undef, undef, undef, undef, undef, undef, undef, undef, undef, undef, undef, undef, undef, undef, undef, undef, undef, undef, undef, undef, undef, undef, undef, undef, undef, undef, undef, undef, undef, undef, undef, undef, undef, undef, undef, undef, undef, undef, undef, undef, undef, undef, undef, undef, undef, undef, undef, undef, undef, undef, undef, undef, undef, undef, undef, undef, undef, undef, undef, undef, undef, undef, undef, undef, undef, undef, undef, undef, undef, undef, undef, undef, undef, undef]) Try.func13 rfl (ro2 _ _ rfl rfl) rfl fun E => ?_
    repeat' (first
      | with_reducible refine Then.n ?_
      | with_reducible refine Then.r ?_
      | with_reducible refine Then.x ?_
      | with_reducible refine InB.n ?_
      | with_reducible refine InB.r ?_
      | with_reducible refine InB.hit ?_
      | with_reducible refine InB.miss (by decide) ?_
      | ((with_reducible refine AL.on ?_); first
        | (refine AL.gd rfl ?_; first | (refine AL.gskip rfl rfl ?_; (conv => (arg 5; try tactic => exact nrm))) | (refine AL.gs1 rfl rfl (fun hc => ?_) (fun hc => ?_) <;> (try simp only [decide_eq_true_eq, decide_eq_false_iff_not, Bool.not_true, Bool.not_false, Bool.not_eq_true', Bool.not_eq_false', Int.not_lt, Int.not_le, Classical.not_not, ne_eq] at hc) <;> first | (exfalso; first | contradiction | (first | omega | (simp at *; done)); done) | (conv => (arg 5; try tactic => exact nrm))) | (refine AL.gs0 rfl rfl (fun hc => ?_) (fun hc => ?_) <;> (try simp only [decide_eq_true_eq, decide_eq_false_iff_not, Bool.not_true, Bool.not_false, Bool.not_eq_true', Bool.not_eq_false', Int.not_lt, Int.not_le, Classical.not_not, ne_eq] at hc) <;> first | (exfalso; first | contradiction | (first | omega | (simp at *; done)); done) | (conv => (arg 5; try tactic => exact nrm))))
        | ((first | ((with_reducible refine AL.k_move ?_); first | (refine AL.q rfl (OQ.move (by conv => lhs; whnf)) ?_)) | ((with_reducible refine AL.k_call ?_); first | refine AL.q rfl (OQ.lenS (xt := 29) (r := (none, 2, true)) rfl (by kernel_rfl)) ?_) | ((with_reducible refine AL.k_fieldAddr ?_); first | refine AL.q rfl (OQ.fieldA (ty := 95) (i := 0) (n := 3) (off := 0) (g := true) rfl (by kernel_rfl) (by decide)) ?_ | refine AL.q rfl (OQ.fieldA (ty := 95) (i := 1) (n := 3) (off := 3) (g := true) rfl (by kernel_rfl) (by decide)) ?_) | ((with_reducible refine AL.k_load ?_); first | refine AL.q rfl (OQ.loadN (ty := 24) (n := 3) rfl (by kernel_rfl) (by kernel_rfl) rfl) ?_) | ((with_reducible refine AL.k_assign ?_); first | (refine AL.q rfl (OQ.assign (by conv => lhs; whnf)) ?_)) | ((with_reducible refine AL.k_binOp ?_); first | refine AL.q rfl (OQ.eql rfl rfl) ?_ | refine AL.q rfl (OQ.neq rfl rfl) ?_) | ((with_reducible refine AL.k_pick ?_); first | (refine AL.q rfl (OQ.pickT rfl (by with_reducible rfl) (by conv => lhs; whnf)) ?_) | (refine AL.q rfl (OQ.pickF rfl (by with_reducible rfl) (by conv => lhs; whnf)) ?_)) | ((with_reducible refine AL.k_unOp ?_); first | refine AL.q rfl (OQ.not rfl) ?_)); (conv => (arg 5; try tactic => exact nrm)))
        | ((first | first | refine AL.pcall (g := 16) rfl (by kernel_rfl) rfl (awake_q _) ?_ | refine AL.pcall (g := 17) rfl (by kernel_rfl) rfl ((by first | exact H1 _ _ (.blk 0 _ rfl rfl rfl) | exact H2 _ _ (.blk 1 _ rfl rfl rfl))) ?_ | refine AL.pcall (g := 20) rfl (by kernel_rfl) rfl ((by first | exact H3 _ _ (.blk 0 _ rfl rfl rfl) | exact H4 _ _ (.blk 1 _ rfl rfl rfl))) ?_ | refine AL.pcall (g := 23) rfl (by kernel_rfl) rfl (HRg _) ?_ | refine AL.pcall (g := 60) rfl (by kernel_rfl) rfl ((by first | exact H5 _ _ (.blk 0 _ rfl rfl rfl) | exact H6 _ _ (.blk 1 _ rfl rfl rfl))) ?_ | refine AL.pcall (g := 61) rfl (by kernel_rfl) rfl ((by exact two_v HRA rfl rfl rfl rfl rfl rfl rfl rfl)) ?_); (conv => (arg 5; try tactic => exact nrm)))
        | ((first | ((with_reducible refine AL.k_call ?_); first | refine AL.acall (g := 59) rfl (by kernel_rfl) rfl ((by exact HRT _ _ _ _ _ rfl rfl rfl rfl)) ?_) | ((with_reducible refine AL.k_box ?_); first | (refine AL.w rfl (OW.box (by conv => lhs; whnf) (by intro r h; cases h)) ?_))); (conv => (arg 5; try tactic => exact nrm)); (conv => (arg 6; try tactic => exact nrm)))
        | (refine AL.bs rfl (fun hc => ?_) (fun hc => ?_) <;> (fail_if_success (with_reducible exact lit_no hc)) <;> (try simp only [decide_eq_true_eq, decide_eq_false_iff_not, Bool.not_true, Bool.not_false, Bool.not_eq_true', Bool.not_eq_false', Int.not_lt, Int.not_le, Classical.not_not, ne_eq] at hc) <;> first | (exfalso; first | contradiction | (first | omega | (simp at *; done)); done) | (conv => (arg 5; try tactic => exact nrm)))
        | refine AL.nil ?_)
      | ((with_reducible refine AW.on ?_); first
        | refine AW.seq ?_
        | refine AW.skip ?_
        | refine AW.exit ?_
        | refine AW.ret ?_
        | refine AW.block ?_
        | (refine AW.drawF (id := 5) 12 #[0, 1, 3, 0, 8, 31, 0, 127, 255, 511, 511, 1023, 4095] (by kernel_rfl) (by kernel_rfl) ?_; (conv => (arg 8; simp only [List.take_succ_cons, List.take_zero])))
        | (refine AW.drawF (id := 6) 11 #[0, 1, 3, 0, 8, 31, 63, 127, 255, 255, 511, 2047] (by kernel_rfl) (by kernel_rfl) ?_; (conv => (arg 8; simp only [List.take_succ_cons, List.take_zero])))
        | (refine AW.drawF (id := 12) 11 #[0, 1, 3, 0, 8, 31, 63, 127, 255, 255, 511, 2047] (by kernel_rfl) (by kernel_rfl) ?_; (conv => (arg 8; simp only [List.take_succ_cons, List.take_zero])))
        | (refine AW.drawF (id := 13) 11 #[0, 1, 3, 0, 8, 31, 63, 127, 255, 255, 511, 2047] (by kernel_rfl) (by kernel_rfl) ?_; (conv => (arg 8; simp only [List.take_succ_cons, List.take_zero])))
        | (refine AW.region (id := 2) ?_; exfalso; first | omega | (simp at *; done); done)
        | (refine AW.region (id := 4) ?_; exfalso; first | omega | (simp at *; done); done)
        | (refine AW.region (id := 11) ?_; exfalso; first | omega | (simp at *; done); done)
        | (refine AW.region (id := 15) ?_; exfalso; first | omega | (simp at *; done); done)
        | (refine AW.region (id := 17) ?_; exfalso; first | omega | (simp at *; done); done)
        | refine AW.region ?_
        | (refine AW.conds rfl (fun hc => ?_) (fun hc => ?_) <;> (try simp only [decide_eq_true_eq, decide_eq_false_iff_not, Bool.not_true, Bool.not_false, Bool.not_eq_true', Bool.not_eq_false', Int.not_lt, Int.not_le, Classical.not_not, ne_eq] at hc) <;> first | (exfalso; first | contradiction | (first | omega | (simp at *; done)); done) | skip))
      | ((with_reducible refine AF.on ?_); first
        | ((first | ((with_reducible refine AF.k_move ?_); first | (refine AF.q 0 (SW.q (OQ.move (by conv => lhs; whnf)) rfl) ?_)) | ((with_reducible refine AF.k_call ?_); first | refine AF.q 2 (SW.pcall (g := 57) rfl (by kernel_rfl) rfl ((by exact two_v hA rfl rfl rfl rfl rfl rfl rfl rfl)) rfl) ?_ | refine AF.q 2 (SW.pcall (g := 58) rfl (by kernel_rfl) rfl ((by first | exact two_v hT12 rfl rfl rfl rfl rfl rfl rfl rfl | exact two_v hT21 rfl rfl rfl rfl rfl rfl rfl rfl | exact two_v hT11 rfl rfl rfl rfl rfl rfl rfl rfl)) rfl) ?_) | ((with_reducible refine AF.k_fieldAddr ?_); first | refine AF.q 0 (SW.q (OQ.fieldA (ty := 95) (i := 0) (n := 3) (off := 0) (g := true) rfl (by kernel_rfl) (by decide)) rfl) ?_ | refine AF.q 0 (SW.q (OQ.fieldA (ty := 95) (i := 1) (n := 3) (off := 3) (g := true) rfl (by kernel_rfl) (by decide)) rfl) ?_) | ((with_reducible refine AF.k_load ?_); first | refine AF.ql rfl (SW.q (OQ.loadN (ty := 24) (n := 3) rfl (by kernel_rfl) (by kernel_rfl) rfl) rfl) ?_) | ((with_reducible refine AF.k_assign ?_); first | (refine AF.q 0 (SW.q (OQ.assign (by conv => lhs; whnf)) rfl) ?_)) | ((with_reducible refine AF.k_extract ?_); first | refine AF.q 0 (SW.q (OQ.extract rfl rfl) rfl) ?_)); (conv => (arg 9; try tactic => exact nrmF)); (conv => (arg 11; try simp only [List.nil_append, List.cons_append])))
        | ((first | first | refine AF.n1 2 (SW.acall (g := 19) rfl (by kernel_rfl) rfl ((by first | exact Copy_q nm1 bd1 (l := l1) (.blk 0 _ rfl rfl rfl) (by omega) | exact Copy_q nm2 bd2 (l := l2) (.blk 1 _ rfl rfl rfl) (by omega))) rfl) rfl ?_); (conv => (arg 9; try tactic => exact nrmF)); (conv => (arg 11; try simp only [List.nil_append, List.cons_append])); (conv => (arg 10; try tactic => exact nrmF)))
        | (refine AF.nil ?_ (by kernel_rfl); (conv => (arg 4; simp only [List.drop_succ_cons, List.drop_zero, List.drop_nil]))))
      | ((with_reducible refine FinP.on ?_); (first | refine FinP.ret (.tmp (by conv => lhs; whnf) .nil) ?_ rfl | refine FinP.end (.tmp (by conv => lhs; whnf) .nil) ?_ rfl); (try simp only [pack, List.drop, List.take]); all_goals ((first | rfl | (simp; done)))))
  · obtain rfl | ⟨rfl, rfl⟩ : x = false ∨ (x = true ∧ y = false) := by cases x <;> cases y <;> simp_all
    all_goals
      refine PCalls.enter (t := [prP nm1 bd1 (.slice (some ⟨0, 0, none⟩) l1.length INF) nm2 bd2 (.slice (some ⟨1, 0, none⟩) l2.length INF), .int .i64 t, undef, undef, undef, undef, undef, undef, undef, undef, undef, undef, undef, undef, undef, undef, undef, undef, undef, undef, undef, undef, undef, undef, undef, undef, undef, undef, undef, undef, undef, undef, undef, undef, undef, undef, undef, undef, undef, undef, undef, undef, undef, undef, undef, undef, undef, undef, undef, undef, undef, undef, undef, undef, undef, undef, undef, undef, undef, undef, undef, undef, undef, undef, undef, undef, undef, undef, undef, undef, undef, undef, undef, undef, undef, undef, undef, undef, undef, undef, undef, undef, undef, undef, undef, undef, undef, undef, undef, undef, undef, undef, undef, undef, undef, undef, undef, undef, undef, undef, undef, undef, undef, undef, undef, undef, undef, undef, undef, undef, undef, undef, undef, undef, undef, undef, undef, undef, undef, undef, undef, undef, undef, undef, undef, undef, undef, undef, undef, undef, undef, undef, undef, undef, undef, undef, undef, undef, undef, undef, undef, undef, undef, undef, undef, undef, undef, undef, undef, undef, undef, undef, undef, undef, undef]) Try.func13 rfl (ro2 _ _ rfl rfl) rfl fun E => ?_
      repeat' (first
        | with_reducible refine Then.n ?_
        | with_reducible refine Then.r ?_
        | with_reducible refine Then.x ?_
        | with_reducible refine InB.n ?_
        | with_reducible refine InB.r ?_
        | with_reducible refine InB.hit ?_
        | with_reducible refine InB.miss (by decide) ?_
        | ((with_reducible refine AL.on ?_); first
          | (refine AL.gd rfl ?_; first | (refine AL.gskip rfl rfl ?_; (conv => (arg 5; try tactic => exact nrm))) | (refine AL.gs1 rfl rfl (fun hc => ?_) (fun hc => ?_) <;> (try simp only [decide_eq_true_eq, decide_eq_false_iff_not, Bool.not_true, Bool.not_false, Bool.not_eq_true', Bool.not_eq_false', Int.not_lt, Int.not_le, Classical.not_not, ne_eq] at hc) <;> first | (exfalso; first | contradiction | (first | omega | (simp at *; done)); done) | (conv => (arg 5; try tactic => exact nrm))) | (refine AL.gs0 rfl rfl (fun hc => ?_) (fun hc => ?_) <;> (try simp only [decide_eq_true_eq, decide_eq_false_iff_not, Bool.not_true, Bool.not_false, Bool.not_eq_true', Bool.not_eq_false', Int.not_lt, Int.not_le, Classical.not_not, ne_eq] at hc) <;> first | (exfalso; first | contradiction | (first | omega | (simp at *; done)); done) | (conv => (arg 5; try tactic => exact nrm))))
          | ((first | ((with_reducible refine AL.k_move ?_); first | (refine AL.q rfl (OQ.move (by conv => lhs; whnf)) ?_)) | ((with_reducible refine AL.k_call ?_); first | refine AL.q rfl (OQ.lenS (xt := 29) (r := (none, 2, true)) rfl (by kernel_rfl)) ?_) | ((with_reducible refine AL.k_fieldAddr ?_); first | refine AL.q rfl (OQ.fieldA (ty := 95) (i := 0) (n := 3) (off := 0) (g := true) rfl (by kernel_rfl) (by decide)) ?_ | refine AL.q rfl (OQ.fieldA (ty := 95) (i := 1) (n := 3) (off := 3) (g := true) rfl (by kernel_rfl) (by decide)) ?_) | ((with_reducible refine AL.k_load ?_); first | refine AL.q rfl (OQ.loadN (ty := 24) (n := 3) rfl (by kernel_rfl) (by kernel_rfl) rfl) ?_) | ((with_reducible refine AL.k_assign ?_); first | (refine AL.q rfl (OQ.assign (by conv => lhs; whnf)) ?_)) | ((with_reducible refine AL.k_binOp ?_); first | refine AL.q rfl (OQ.eql rfl rfl) ?_ | refine AL.q rfl (OQ.neq rfl rfl) ?_) | ((with_reducible refine AL.k_pick ?_); first | (refine AL.q rfl (OQ.pickT rfl (by with_reducible rfl) (by conv => lhs; whnf)) ?_) | (refine AL.q rfl (OQ.pickF rfl (by with_reducible rfl) (by conv => lhs; whnf)) ?_)) | ((with_reducible refine AL.k_unOp ?_); first | refine AL.q rfl (OQ.not rfl) ?_)); (conv => (arg 5; try tactic => exact nrm)))
          | ((first | first | refine AL.pcall (g := 16) rfl (by kernel_rfl) rfl (awake_q _) ?_ | refine AL.pcall (g := 17) rfl (by kernel_rfl) rfl ((by first | exact H1 _ _ (.blk 0 _ rfl rfl rfl) | exact H2 _ _ (.blk 1 _ rfl rfl rfl))) ?_ | refine AL.pcall (g := 20) rfl (by kernel_rfl) rfl ((by first | exact H3 _ _ (.blk 0 _ rfl rfl rfl) | exact H4 _ _ (.blk 1 _ rfl rfl rfl))) ?_ | refine AL.pcall (g := 23) rfl (by kernel_rfl) rfl (HRg _) ?_ | refine AL.pcall (g := 60) rfl (by kernel_rfl) rfl ((by first | exact H5 _ _ (.blk 0 _ rfl rfl rfl) | exact H6 _ _ (.blk 1 _ rfl rfl rfl))) ?_); (conv => (arg 5; try tactic => exact nrm)))
          | ((first | ((with_reducible refine AL.k_call ?_); first | refine AL.acall (g := 59) rfl (by kernel_rfl) rfl ((by exact HRT _ _ _ _ _ rfl rfl rfl rfl)) ?_) | ((with_reducible refine AL.k_box ?_); first | (refine AL.w rfl (OW.box (by conv => lhs; whnf) (by intro r h; cases h)) ?_))); (conv => (arg 5; try tactic => exact nrm)); (conv => (arg 6; try tactic => exact nrm)))
          | (refine AL.bs rfl (fun hc => ?_) (fun hc => ?_) <;> (fail_if_success (with_reducible exact lit_no hc)) <;> (try simp only [decide_eq_true_eq, decide_eq_false_iff_not, Bool.not_true, Bool.not_false, Bool.not_eq_true', Bool.not_eq_false', Int.not_lt, Int.not_le, Classical.not_not, ne_eq] at hc) <;> first | (exfalso; first | contradiction | (first | omega | (simp at *; done)); done) | (conv => (arg 5; try tactic => exact nrm)))
          | refine AL.nil ?_)
        | ((with_reducible refine AW.on ?_); first
          | refine AW.seq ?_
          | refine AW.skip ?_
          | refine AW.exit ?_
          | refine AW.ret ?_
          | refine AW.block ?_
          | (refine AW.drawF (id := 5) 12 #[0, 1, 3, 0, 8, 31, 0, 127, 255, 511, 511, 1023, 4095] (by kernel_rfl) (by kernel_rfl) ?_; (conv => (arg 8; simp only [List.take_succ_cons, List.take_zero])))
          | (refine AW.drawF (id := 6) 11 #[0, 1, 3, 0, 8, 31, 63, 127, 255, 255, 511, 2047] (by kernel_rfl) (by kernel_rfl) ?_; (conv => (arg 8; simp only [List.take_succ_cons, List.take_zero])))
          | (refine AW.drawF (id := 12) 11 #[0, 1, 3, 0, 8, 31, 63, 127, 255, 255, 511, 2047] (by kernel_rfl) (by kernel_rfl) ?_; (conv => (arg 8; simp only [List.take_succ_cons, List.take_zero])))
          | (refine AW.drawF (id := 13) 11 #[0, 1, 3, 0, 8, 31, 63, 127, 255, 255, 511, 2047] (by kernel_rfl) (by kernel_rfl) ?_; (conv => (arg 8; simp only [List.take_succ_cons, List.take_zero])))
          | (refine AW.region (id := 2) ?_; exfalso; first | omega | (simp at *; done); done)
          | (refine AW.region (id := 4) ?_; exfalso; first | omega | (simp at *; done); done)
          | (refine AW.region (id := 11) ?_; exfalso; first | omega | (simp at *; done); done)
          | (refine AW.region (id := 15) ?_; exfalso; first | omega | (simp at *; done); done)
          | (refine AW.region (id := 18) ?_; exfalso; first | omega | (simp at *; done); done)
          | refine AW.region ?_
          | (refine AW.conds rfl (fun hc => ?_) (fun hc => ?_) <;> (try simp only [decide_eq_true_eq, decide_eq_false_iff_not, Bool.not_true, Bool.not_false, Bool.not_eq_true', Bool.not_eq_false', Int.not_lt, Int.not_le, Classical.not_not, ne_eq] at hc) <;> first | (exfalso; first | contradiction | (first | omega | (simp at *; done)); done) | skip))
        | ((with_reducible refine AF.on ?_); first
          | ((first | ((with_reducible refine AF.k_move ?_); first | (refine AF.q 0 (SW.q (OQ.move (by conv => lhs; whnf)) rfl) ?_)) | ((with_reducible refine AF.k_call ?_); first | refine AF.q 2 (SW.pcall (g := 57) rfl (by kernel_rfl) rfl ((by exact two_v hA rfl rfl rfl rfl rfl rfl rfl rfl)) rfl) ?_ | refine AF.q 2 (SW.pcall (g := 58) rfl (by kernel_rfl) rfl ((by first | exact two_v hT12 rfl rfl rfl rfl rfl rfl rfl rfl | exact two_v hT21 rfl rfl rfl rfl rfl rfl rfl rfl | exact two_v hT11 rfl rfl rfl rfl rfl rfl rfl rfl)) rfl) ?_) | ((with_reducible refine AF.k_fieldAddr ?_); first | refine AF.q 0 (SW.q (OQ.fieldA (ty := 95) (i := 0) (n := 3) (off := 0) (g := true) rfl (by kernel_rfl) (by decide)) rfl) ?_ | refine AF.q 0 (SW.q (OQ.fieldA (ty := 95) (i := 1) (n := 3) (off := 3) (g := true) rfl (by kernel_rfl) (by decide)) rfl) ?_) | ((with_reducible refine AF.k_load ?_); first | refine AF.ql rfl (SW.q (OQ.loadN (ty := 24) (n := 3) rfl (by kernel_rfl) (by kernel_rfl) rfl) rfl) ?_) | ((with_reducible refine AF.k_assign ?_); first | (refine AF.q 0 (SW.q (OQ.assign (by conv => lhs; whnf)) rfl) ?_)) | ((with_reducible refine AF.k_extract ?_); first | refine AF.q 0 (SW.q (OQ.extract rfl rfl) rfl) ?_)); (conv => (arg 9; try tactic => exact nrmF)); (conv => (arg 11; try simp only [List.nil_append, List.cons_append])))
          | ((first | first | refine AF.n1 2 (SW.acall (g := 19) rfl (by kernel_rfl) rfl ((by first | exact Copy_q nm1 bd1 (l := l1) (.blk 0 _ rfl rfl rfl) (by omega) | exact Copy_q nm2 bd2 (l := l2) (.blk 1 _ rfl rfl rfl) (by omega))) rfl) rfl ?_); (conv => (arg 9; try tactic => exact nrmF)); (conv => (arg 11; try simp only [List.nil_append, List.cons_append])); (conv => (arg 10; try tactic => exact nrmF)))
          | (refine AF.nil ?_ (by kernel_rfl); (conv => (arg 4; simp only [List.drop_succ_cons, List.drop_zero, List.drop_nil]))))
        | ((with_reducible refine FinP.on ?_); (first | refine FinP.ret (.tmp (by conv => lhs; whnf) .nil) ?_ rfl | refine FinP.end (.tmp (by conv => lhs; whnf) .nil) ?_ rfl); (try simp only [pack, List.drop, List.take]); all_goals ((first | rfl | (simp; done)))))
/-- Two right orbits, which differ somewhere. -/
theorem AgL_y (t : Int) (hn1 : nm1.size ≤ 1000) (hn2 : nm2.size ≤ 1000) (hR1 : Right bd1 l1) (hR2 : Right bd2 l2) (he1 : (orbE nm1.data.toList bd1 l1).2 = 0) (he2 : (orbE nm2.data.toList bd2 l2).2 = 0)
    (hf1 : (fewB nm1.size l1.length && briefB nm1.data.toList bd1 l1) = true) (hf2 : (fewB nm2.size l2.length && briefB nm2.data.toList bd2 l2) = true)
    (L : List (Int × Int)) (hl : L.length ≤ 100000) (hne : L ≠ [])
    (hT12 : ∀ z1 z2, ACalls Try.prog 58 [obI nm1 bd1 0 l1, obI nm2 bd2 1 l2] (two l1 l2 z1 z2) (.tuple #[rgV 2 L, .int .i64 0]) [some ⟨flatS l1, false, z1⟩, some ⟨flatS l2, false, z2⟩, rgB L])
    (hT21 : ∀ z1 z2, ACalls Try.prog 58 [obI nm2 bd2 0 l2, obI nm1 bd1 1 l1] (two l2 l1 z1 z2) (.tuple #[rgV 2 L, .int .i64 0]) [some ⟨flatS l2, false, z1⟩, some ⟨flatS l1, false, z2⟩, rgB L])
    (hRT : ∀ z1 z2, ACalls Try.prog 59 [obI nm1 bd1 0 l1, obI nm2 bd2 1 l2] (two l1 l2 z1 z2) (rgV 2 L) [some ⟨flatS l1, false, z1⟩, some ⟨flatS l2, false, z2⟩, rgB L])
    (hT11 : ∀ z1 z2, PCalls Try.prog 58 [obI nm1 bd1 0 l1, obI nm1 bd1 1 l1] (two l1 l1 z1 z2) (.tuple #[.slice none 0 0, .int .i64 0]))
    (n e : Int) (hA : ∀ z1 z2, PCalls Try.prog 57 [obI nm1 bd1 0 l1, obI nm2 bd2 1 l2, .int .i64 t] (two l1 l2 z1 z2) (.tuple #[.int .i64 n, .int .i64 e]))
    (hxy : ((rngB t (frstT l1) (lastT l1) && rngB t (frstT l2) (lastT l2)) = true ∧ e = 0 ∧ ∀ z1 z2, PCalls Try.prog 61 [obI nm1 bd1 0 l1, obI nm2 bd2 1 l2, .int .i64 t] (two l1 l2 z1 z2) (.int .i64 n)) ∨ ((rngB t (frstT l1) (lastT l1) && rngB t (frstT l2) (lastT l2)) = false ∧ e = 2 ∧ n = 0)) :
    PCalls Try.prog 13 [prP nm1 bd1 (.slice (some ⟨0, 0, none⟩) l1.length INF) nm2 bd2 (.slice (some ⟨1, 0, none⟩) l2.length INF), .int .i64 t] (two l1 l2 0 0) (.bool true) := by
  have ho1 := Ors.of_right hn1 hR1
  have ho2 := Ors.of_right hn2 hR2
  have h401 := hR1.n40
  have h402 := hR2.n40
  have H1 := fun (m : Mem) (v : Value) (hS : SlB m v l1) => brief_t (nm := nm1) (bd := bd1) hS ho1.wf (by omega) (by omega)
  have H2 := fun (m : Mem) (v : Value) (hS : SlB m v l2) => brief_t (nm := nm2) (bd := bd2) hS ho2.wf (by omega) (by omega)
  rw [hf1] at H1
  rw [hf2] at H2
  have H3 := fun (m : Mem) (v : Value) (hS : SlB m v l1) => Err_q (bd := bd1) hS ho1
  have H4 := fun (m : Mem) (v : Value) (hS : SlB m v l2) => Err_q (bd := bd2) hS ho2
  rw [he1] at H3
  rw [he2] at H4
  have H5 := fun (m : Mem) (v : Value) (hS : SlB m v l1) => Has_q (nm := nm1) (bd := bd1) hS ho1 hR1 t
  have H6 := fun (m : Mem) (v : Value) (hS : SlB m v l2) => Has_q (nm := nm2) (bd := bd2) hS ho2 hR2 t
  have e1 : ∀ b, rgV b L = .slice (some ⟨b, 0, none⟩) L.length INF := fun b => if_neg hne
  have e2 : rgB L = some ⟨flatR L, true, 2⟩ := if_neg hne
  have hlp : 0 < L.length := List.length_pos_iff.2 hne
  have HRg : ∀ (m : Mem) (b c : Nat), m.at b = some ⟨flatR L, true, 2⟩ → m.at c = some ⟨flatR L, true, 2⟩ → PCalls Try.prog 23 [.slice (some ⟨b, 0, none⟩) L.length INF, .slice (some ⟨c, 0, none⟩) L.length INF] m (.bool true) := fun m b c hb hc => by
    have := Ranges_q (hb.trans e2.symm) (hc.trans e2.symm) hl hl
    rwa [show decide (L = L) = true by simp, e1, e1] at this
  have HT12 : ∀ (m : Mem) (i j : Nat) (b1 b2 : Blk) (h1 : m.at i = some b1) (c1 : b1.cells = flatS l1) (h2 : m.at j = some b2) (c2 : b2.cells = flatS l2), ACalls Try.prog 58 [obI nm1 bd1 i l1, obI nm2 bd2 j l2] m (.tuple #[.slice (some ⟨m.length, 0, none⟩) L.length INF, .int .i64 0]) (m ++ [some ⟨flatR L, true, 2⟩]) := fun m i j b1 b2 h1 c1 h2 c2 => by
    have := two_a hT12 h1 c1 h2 c2
    rwa [e1, e2] at this
  have HT21 : ∀ (m : Mem) (i j : Nat) (b1 b2 : Blk) (h1 : m.at i = some b1) (c1 : b1.cells = flatS l2) (h2 : m.at j = some b2) (c2 : b2.cells = flatS l1), ACalls Try.prog 58 [obI nm2 bd2 i l2, obI nm1 bd1 j l1] m (.tuple #[.slice (some ⟨m.length, 0, none⟩) L.length INF, .int .i64 0]) (m ++ [some ⟨flatR L, true, 2⟩]) := fun m i j b1 b2 h1 c1 h2 c2 => by
    have := two_a hT21 h1 c1 h2 c2
    rwa [e1, e2] at this
  have HRT : ∀ (m : Mem) (i j : Nat) (b1 b2 : Blk) (h1 : m.at i = some b1) (c1 : b1.cells = flatS l1) (h2 : m.at j = some b2) (c2 : b2.cells = flatS l2), ACalls Try.prog 59 [obI nm1 bd1 i l1, obI nm2 bd2 j l2] m (.slice (some ⟨m.length, 0, none⟩) L.length INF) (m ++ [some ⟨flatR L, true, 2⟩]) := fun m i j b1 b2 h1 c1 h2 c2 => by
    have := two_r hRT h1 c1 h2 c2
    rwa [e1, e2] at this
  clear hT12 hT21 hRT e1 e2
  clear he1 he2 hf1 hf2 hR1 hR2
  generalize rngB t (frstT l1) (lastT l1) = x at *
  generalize rngB t (frstT l2) (lastT l2) = y at *
  rcases hxy with ⟨hx, rfl, HRA⟩ | ⟨hx, rfl, rfl⟩
  · obtain ⟨rfl, rfl⟩ : x = true ∧ y = true := by simpa using hx
    refine PCalls.enter (t := [prP nm1 bd1 (.slice (some ⟨0, 0, none⟩) l1.length INF) nm2 bd2 (.slice (some ⟨1, 0, none⟩) l2.length INF), .int .i64 t, undef, undef, undef, undef, undef, undef, undef, undef, undef, undef, undef, undef, undef, undef, undef, undef, undef, undef, undef, undef, undef, undef, undef, undef, undef, undef, undef, undef, undef, undef, undef, undef, undef, undef, undef, undef, undef, undef, undef, undef, undef, undef, undef, undef, undef, undef, undef, undef, undef, undef, undef, undef, undef, undef, undef, undef, undef, undef, undef, undef, undef, undef, undef, undef, undef, undef, undef, undef, undef, undef, undef, undef, undef, undef, undef, undef, undef, undef, undef, undef, undef, undef, undef, undef, undef, undef, undef, undef, undef, undef, undef, undef, undef, undef, undef, undef, undef, undef, undef, undef, undef, undef, undef, undef, undef, undef, undef, undef, undef, undef, undef, undef, undef, undef, undef, undef, undef, undef, undef, undef, undef, undef, undef, undef, undef, undef, undef, undef, undef, undef, undef, undef, undef, undef, undef, undef, undef, undef, undef, undef, undef, undef, undef, undef, undef, undef, undef, undef, undef, undef, undef, undef, undef]) Try.func13 rfl (ro2 _ _ rfl rfl) rfl fun E => ?_
    repeat' (first
      | with_reducible refine Then.n ?_
      | with_reducible refine Then.r ?_
      | with_reducible refine Then.x ?_
      | with_reducible refine InB.n ?_
      | with_reducible refine InB.r ?_
      | with_reducible refine InB.hit ?_
      | with_reducible refine InB.miss (by decide) ?_
      | ((with_reducible refine AL.on ?_); first
        | (refine AL.gd rfl ?_; first | (refine AL.gskip rfl rfl ?_; (conv => (arg 5; try tactic => exact nrm))) | (refine AL.gs1 rfl rfl (fun hc => ?_) (fun hc => ?_) <;> (try simp only [decide_eq_true_eq, decide_eq_false_iff_not, Bool.not_true, Bool.not_false, Bool.not_eq_true', Bool.not_eq_false', Int.not_lt, Int.not_le, Classical.not_not, ne_eq] at hc) <;> first | (exfalso; first | contradiction | (first | omega | (simp at *; done)); done) | (conv => (arg 5; try tactic => exact nrm))) | (refine AL.gs0 rfl rfl (fun hc => ?_) (fun hc => ?_) <;> (try simp only [decide_eq_true_eq, decide_eq_false_iff_not, Bool.not_true, Bool.not_false, Bool.not_eq_true', Bool.not_eq_false', Int.not_lt, Int.not_le, Classical.not_not, ne_eq] at hc) <;> first | (exfalso; first | contradiction | (first | omega | (simp at *; done)); done) | (conv => (arg 5; try tactic => exact nrm))))
        | ((first | ((with_reducible refine AL.k_move ?_); first | (refine AL.q rfl (OQ.move (by conv => lhs; whnf)) ?_)) | ((with_reducible refine AL.k_call ?_); first | refine AL.q rfl (OQ.lenS (xt := 29) (r := (none, 2, true)) rfl (by kernel_rfl)) ?_) | ((with_reducible refine AL.k_fieldAddr ?_); first | refine AL.q rfl (OQ.fieldA (ty := 95) (i := 0) (n := 3) (off := 0) (g := true) rfl (by kernel_rfl) (by decide)) ?_ | refine AL.q rfl (OQ.fieldA (ty := 95) (i := 1) (n := 3) (off := 3) (g := true) rfl (by kernel_rfl) (by decide)) ?_) | ((with_reducible refine AL.k_load ?_); first | refine AL.q rfl (OQ.loadN (ty := 24) (n := 3) rfl (by kernel_rfl) (by kernel_rfl) rfl) ?_) | ((with_reducible refine AL.k_assign ?_); first | (refine AL.q rfl (OQ.assign (by conv => lhs; whnf)) ?_)) | ((with_reducible refine AL.k_binOp ?_); first | refine AL.q rfl (OQ.eql rfl rfl) ?_ | refine AL.q rfl (OQ.neq rfl rfl) ?_) | ((with_reducible refine AL.k_pick ?_); first | (refine AL.q rfl (OQ.pickT rfl (by with_reducible rfl) (by conv => lhs; whnf)) ?_) | (refine AL.q rfl (OQ.pickF rfl (by with_reducible rfl) (by conv => lhs; whnf)) ?_)) | ((with_reducible refine AL.k_unOp ?_); first | refine AL.q rfl (OQ.not rfl) ?_)); (conv => (arg 5; try tactic => exact nrm)))
        | ((first | first | refine AL.pcall (g := 16) rfl (by kernel_rfl) rfl (awake_q _) ?_ | refine AL.pcall (g := 17) rfl (by kernel_rfl) rfl ((by first | exact H1 _ _ (.blk 0 _ rfl rfl rfl) | exact H2 _ _ (.blk 1 _ rfl rfl rfl))) ?_ | refine AL.pcall (g := 20) rfl (by kernel_rfl) rfl ((by first | exact H3 _ _ (.blk 0 _ rfl rfl rfl) | exact H4 _ _ (.blk 1 _ rfl rfl rfl))) ?_ | refine AL.pcall (g := 23) rfl (by kernel_rfl) rfl ((by exact HRg _ _ _ rfl rfl)) ?_ | refine AL.pcall (g := 60) rfl (by kernel_rfl) rfl ((by first | exact H5 _ _ (.blk 0 _ rfl rfl rfl) | exact H6 _ _ (.blk 1 _ rfl rfl rfl))) ?_ | refine AL.pcall (g := 61) rfl (by kernel_rfl) rfl ((by exact two_v HRA rfl rfl rfl rfl rfl rfl rfl rfl)) ?_); (conv => (arg 5; try tactic => exact nrm)))
        | ((first | ((with_reducible refine AL.k_call ?_); first | refine AL.acall (g := 59) rfl (by kernel_rfl) rfl ((by exact HRT _ _ _ _ _ rfl rfl rfl rfl)) ?_) | ((with_reducible refine AL.k_box ?_); first | (refine AL.w rfl (OW.box (by conv => lhs; whnf) (by intro r h; cases h)) ?_))); (conv => (arg 5; try tactic => exact nrm)); (conv => (arg 6; try tactic => exact nrm)))
        | (refine AL.bs rfl (fun hc => ?_) (fun hc => ?_) <;> (fail_if_success (with_reducible exact lit_no hc)) <;> (try simp only [decide_eq_true_eq, decide_eq_false_iff_not, Bool.not_true, Bool.not_false, Bool.not_eq_true', Bool.not_eq_false', Int.not_lt, Int.not_le, Classical.not_not, ne_eq] at hc) <;> first | (exfalso; first | contradiction | (first | omega | (simp at *; done)); done) | (conv => (arg 5; try tactic => exact nrm)))
        | refine AL.nil ?_)
      | ((with_reducible refine AW.on ?_); first
        | refine AW.seq ?_
        | refine AW.skip ?_
        | refine AW.exit ?_
        | refine AW.ret ?_
        | refine AW.block ?_
        | (refine AW.drawF (id := 5) 12 #[0, 1, 3, 0, 8, 31, 0, 127, 255, 511, 511, 1023, 4095] (by kernel_rfl) (by kernel_rfl) ?_; (conv => (arg 8; simp only [List.take_succ_cons, List.take_zero])))
        | (refine AW.drawF (id := 6) 11 #[0, 1, 3, 0, 8, 31, 63, 127, 255, 255, 511, 2047] (by kernel_rfl) (by kernel_rfl) ?_; (conv => (arg 8; simp only [List.take_succ_cons, List.take_zero])))
        | (refine AW.drawF (id := 12) 11 #[0, 1, 3, 0, 8, 31, 63, 127, 255, 255, 511, 2047] (by kernel_rfl) (by kernel_rfl) ?_; (conv => (arg 8; simp only [List.take_succ_cons, List.take_zero])))
        | (refine AW.drawF (id := 13) 11 #[0, 1, 3, 0, 8, 31, 63, 127, 255, 255, 511, 2047] (by kernel_rfl) (by kernel_rfl) ?_; (conv => (arg 8; simp only [List.take_succ_cons, List.take_zero])))
        | (refine AW.region (id := 2) ?_; exfalso; first | omega | (simp at *; done); done)
        | (refine AW.region (id := 4) ?_; exfalso; first | omega | (simp at *; done); done)
        | (refine AW.region (id := 11) ?_; exfalso; first | omega | (simp at *; done); done)
        | (refine AW.region (id := 15) ?_; exfalso; first | omega | (simp at *; done); done)
        | (refine AW.region (id := 17) ?_; exfalso; first | omega | (simp at *; done); done)
        | refine AW.region ?_
        | (refine AW.conds rfl (fun hc => ?_) (fun hc => ?_) <;> (try simp only [decide_eq_true_eq, decide_eq_false_iff_not, Bool.not_true, Bool.not_false, Bool.not_eq_true', Bool.not_eq_false', Int.not_lt, Int.not_le, Classical.not_not, ne_eq] at hc) <;> first | (exfalso; first | contradiction | (first | omega | (simp at *; done)); done) | skip))
      | ((with_reducible refine AF.on ?_); first
        | ((first | ((with_reducible refine AF.k_move ?_); first | (refine AF.q 0 (SW.q (OQ.move (by conv => lhs; whnf)) rfl) ?_)) | ((with_reducible refine AF.k_call ?_); first | refine AF.q 2 (SW.pcall (g := 57) rfl (by kernel_rfl) rfl ((by exact two_v hA rfl rfl rfl rfl rfl rfl rfl rfl)) rfl) ?_) | ((with_reducible refine AF.k_fieldAddr ?_); first | refine AF.q 0 (SW.q (OQ.fieldA (ty := 95) (i := 0) (n := 3) (off := 0) (g := true) rfl (by kernel_rfl) (by decide)) rfl) ?_ | refine AF.q 0 (SW.q (OQ.fieldA (ty := 95) (i := 1) (n := 3) (off := 3) (g := true) rfl (by kernel_rfl) (by decide)) rfl) ?_) | ((with_reducible refine AF.k_load ?_); first | refine AF.ql rfl (SW.q (OQ.loadN (ty := 24) (n := 3) rfl (by kernel_rfl) (by kernel_rfl) rfl) rfl) ?_) | ((with_reducible refine AF.k_assign ?_); first | (refine AF.q 0 (SW.q (OQ.assign (by conv => lhs; whnf)) rfl) ?_)) | ((with_reducible refine AF.k_extract ?_); first | refine AF.q 0 (SW.q (OQ.extract rfl rfl) rfl) ?_)); (conv => (arg 9; try tactic => exact nrmF)); (conv => (arg 11; try simp only [List.nil_append, List.cons_append])))
        | ((first | first | refine AF.n1 2 (SW.acall (g := 19) rfl (by kernel_rfl) rfl ((by first | exact Copy_q nm1 bd1 (l := l1) (.blk 0 _ rfl rfl rfl) (by omega) | exact Copy_q nm2 bd2 (l := l2) (.blk 1 _ rfl rfl rfl) (by omega))) rfl) rfl ?_ | refine AF.n1 2 (SW.acall (g := 58) rfl (by kernel_rfl) rfl ((by first | exact HT12 _ _ _ _ _ rfl rfl rfl rfl | exact HT21 _ _ _ _ _ rfl rfl rfl rfl)) rfl) rfl ?_ | refine AF.q 2 (SW.pcall (g := 58) rfl (by kernel_rfl) rfl ((by exact two_v hT11 rfl rfl rfl rfl rfl rfl rfl rfl)) rfl) ?_); (conv => (arg 9; try tactic => exact nrmF)); (conv => (arg 11; try simp only [List.nil_append, List.cons_append])); (conv => (arg 10; try tactic => exact nrmF)))
        | (refine AF.nil ?_ (by kernel_rfl); (conv => (arg 4; simp only [List.drop_succ_cons, List.drop_zero, List.drop_nil]))))
      | ((with_reducible refine FinP.on ?_); (first | refine FinP.ret (.tmp (by conv => lhs; whnf) .nil) ?_ rfl | refine FinP.end (.tmp (by conv => lhs; whnf) .nil) ?_ rfl); (try simp only [pack, List.drop, List.take]); all_goals ((first | rfl | (simp; done)))))
  · obtain rfl | ⟨rfl, rfl⟩ : x = false ∨ (x = true ∧ y = false) := by cases x <;> cases y <;> simp_all
    all_goals
      refine PCalls.enter (t := [prP nm1 bd1 (.slice (some ⟨0, 0, none⟩) l1.length INF) nm2 bd2 (.slice (some ⟨1, 0, none⟩) l2.length INF), .int .i64 t, undef, undef, undef, undef, undef, undef, undef, undef, undef, undef, undef, undef, undef, undef, undef, undef, undef, undef, undef, undef, undef, undef, undef, undef, undef, undef, undef, undef, undef, undef, undef, undef, undef, undef, undef, undef, undef, undef, undef, undef, undef, undef, undef, undef, undef, undef, undef, undef, undef, undef, undef, undef, undef, undef, undef, undef, undef, undef, undef, undef, undef, undef, undef, undef, undef, undef, undef, undef, undef, undef, undef, undef, undef, undef, undef, undef, undef, undef, undef, undef, undef, undef, undef, undef, undef, undef, undef, undef, undef, undef, undef, undef, undef, undef, undef, undef, undef, undef, undef, undef, undef, undef, undef, undef, undef, undef, undef, undef, undef, undef, undef, undef, undef, undef, undef, undef, undef, undef, undef, undef, undef, undef, undef, undef, undef, undef, undef, undef, undef, undef, undef, undef, undef, undef, undef, undef, undef, undef, undef, undef, undef, undef, undef, undef, undef, undef, undef, undef, undef, undef, undef, undef, undef]) Try.func13 rfl (ro2 _ _ rfl rfl) rfl fun E => ?_
      repeat' (first
        | with_reducible refine Then.n ?_
        | with_reducible refine Then.r ?_
        | with_reducible refine Then.x ?_
        | with_reducible refine InB.n ?_
        | with_reducible refine InB.r ?_
        | with_reducible refine InB.hit ?_
        | with_reducible refine InB.miss (by decide) ?_
        | ((with_reducible refine AL.on ?_); first
          | (refine AL.gd rfl ?_; first | (refine AL.gskip rfl rfl ?_; (conv => (arg 5; try tactic => exact nrm))) | (refine AL.gs1 rfl rfl (fun hc => ?_) (fun hc => ?_) <;> (try simp only [decide_eq_true_eq, decide_eq_false_iff_not, Bool.not_true, Bool.not_false, Bool.not_eq_true', Bool.not_eq_false', Int.not_lt, Int.not_le, Classical.not_not, ne_eq] at hc) <;> first | (exfalso; first | contradiction | (first | omega | (simp at *; done)); done) | (conv => (arg 5; try tactic => exact nrm))) | (refine AL.gs0 rfl rfl (fun hc => ?_) (fun hc => ?_) <;> (try simp only [decide_eq_true_eq, decide_eq_false_iff_not, Bool.not_true, Bool.not_false, Bool.not_eq_true', Bool.not_eq_false', Int.not_lt, Int.not_le, Classical.not_not, ne_eq] at hc) <;> first | (exfalso; first | contradiction | (first | omega | (simp at *; done)); done) | (conv => (arg 5; try tactic => exact nrm))))
          | ((first | ((with_reducible refine AL.k_move ?_); first | (refine AL.q rfl (OQ.move (by conv => lhs; whnf)) ?_)) | ((with_reducible refine AL.k_call ?_); first | refine AL.q rfl (OQ.lenS (xt := 29) (r := (none, 2, true)) rfl (by kernel_rfl)) ?_) | ((with_reducible refine AL.k_fieldAddr ?_); first | refine AL.q rfl (OQ.fieldA (ty := 95) (i := 0) (n := 3) (off := 0) (g := true) rfl (by kernel_rfl) (by decide)) ?_ | refine AL.q rfl (OQ.fieldA (ty := 95) (i := 1) (n := 3) (off := 3) (g := true) rfl (by kernel_rfl) (by decide)) ?_) | ((with_reducible refine AL.k_load ?_); first | refine AL.q rfl (OQ.loadN (ty := 24) (n := 3) rfl (by kernel_rfl) (by kernel_rfl) rfl) ?_) | ((with_reducible refine AL.k_assign ?_); first | (refine AL.q rfl (OQ.assign (by conv => lhs; whnf)) ?_)) | ((with_reducible refine AL.k_binOp ?_); first | refine AL.q rfl (OQ.eql rfl rfl) ?_ | refine AL.q rfl (OQ.neq rfl rfl) ?_) | ((with_reducible refine AL.k_pick ?_); first | (refine AL.q rfl (OQ.pickT rfl (by with_reducible rfl) (by conv => lhs; whnf)) ?_) | (refine AL.q rfl (OQ.pickF rfl (by with_reducible rfl) (by conv => lhs; whnf)) ?_)) | ((with_reducible refine AL.k_unOp ?_); first | refine AL.q rfl (OQ.not rfl) ?_)); (conv => (arg 5; try tactic => exact nrm)))
          | ((first | first | refine AL.pcall (g := 16) rfl (by kernel_rfl) rfl (awake_q _) ?_ | refine AL.pcall (g := 17) rfl (by kernel_rfl) rfl ((by first | exact H1 _ _ (.blk 0 _ rfl rfl rfl) | exact H2 _ _ (.blk 1 _ rfl rfl rfl))) ?_ | refine AL.pcall (g := 20) rfl (by kernel_rfl) rfl ((by first | exact H3 _ _ (.blk 0 _ rfl rfl rfl) | exact H4 _ _ (.blk 1 _ rfl rfl rfl))) ?_ | refine AL.pcall (g := 23) rfl (by kernel_rfl) rfl ((by exact HRg _ _ _ rfl rfl)) ?_ | refine AL.pcall (g := 60) rfl (by kernel_rfl) rfl ((by first | exact H5 _ _ (.blk 0 _ rfl rfl rfl) | exact H6 _ _ (.blk 1 _ rfl rfl rfl))) ?_); (conv => (arg 5; try tactic => exact nrm)))
          | ((first | ((with_reducible refine AL.k_call ?_); first | refine AL.acall (g := 59) rfl (by kernel_rfl) rfl ((by exact HRT _ _ _ _ _ rfl rfl rfl rfl)) ?_) | ((with_reducible refine AL.k_box ?_); first | (refine AL.w rfl (OW.box (by conv => lhs; whnf) (by intro r h; cases h)) ?_))); (conv => (arg 5; try tactic => exact nrm)); (conv => (arg 6; try tactic => exact nrm)))
          | (refine AL.bs rfl (fun hc => ?_) (fun hc => ?_) <;> (fail_if_success (with_reducible exact lit_no hc)) <;> (try simp only [decide_eq_true_eq, decide_eq_false_iff_not, Bool.not_true, Bool.not_false, Bool.not_eq_true', Bool.not_eq_false', Int.not_lt, Int.not_le, Classical.not_not, ne_eq] at hc) <;> first | (exfalso; first | contradiction | (first | omega | (simp at *; done)); done) | (conv => (arg 5; try tactic => exact nrm)))
          | refine AL.nil ?_)
        | ((with_reducible refine AW.on ?_); first
          | refine AW.seq ?_
          | refine AW.skip ?_
          | refine AW.exit ?_
          | refine AW.ret ?_
          | refine AW.block ?_
          | (refine AW.drawF (id := 5) 12 #[0, 1, 3, 0, 8, 31, 0, 127, 255, 511, 511, 1023, 4095] (by kernel_rfl) (by kernel_rfl) ?_; (conv => (arg 8; simp only [List.take_succ_cons, List.take_zero])))
          | (refine AW.drawF (id := 6) 11 #[0, 1, 3, 0, 8, 31, 63, 127, 255, 255, 511, 2047] (by kernel_rfl) (by kernel_rfl) ?_; (conv => (arg 8; simp only [List.take_succ_cons, List.take_zero])))
          | (refine AW.drawF (id := 12) 11 #[0, 1, 3, 0, 8, 31, 63, 127, 255, 255, 511, 2047] (by kernel_rfl) (by kernel_rfl) ?_; (conv => (arg 8; simp only [List.take_succ_cons, List.take_zero])))
          | (refine AW.drawF (id := 13) 11 #[0, 1, 3, 0, 8, 31, 63, 127, 255, 255, 511, 2047] (by kernel_rfl) (by kernel_rfl) ?_; (conv => (arg 8; simp only [List.take_succ_cons, List.take_zero])))
          | (refine AW.region (id := 2) ?_; exfalso; first | omega | (simp at *; done); done)
          | (refine AW.region (id := 4) ?_; exfalso; first | omega | (simp at *; done); done)
          | (refine AW.region (id := 11) ?_; exfalso; first | omega | (simp at *; done); done)
          | (refine AW.region (id := 15) ?_; exfalso; first | omega | (simp at *; done); done)
          | (refine AW.region (id := 18) ?_; exfalso; first | omega | (simp at *; done); done)
          | refine AW.region ?_
          | (refine AW.conds rfl (fun hc => ?_) (fun hc => ?_) <;> (try simp only [decide_eq_true_eq, decide_eq_false_iff_not, Bool.not_true, Bool.not_false, Bool.not_eq_true', Bool.not_eq_false', Int.not_lt, Int.not_le, Classical.not_not, ne_eq] at hc) <;> first | (exfalso; first | contradiction | (first | omega | (simp at *; done)); done) | skip))
        | ((with_reducible refine AF.on ?_); first
          | ((first | ((with_reducible refine AF.k_move ?_); first | (refine AF.q 0 (SW.q (OQ.move (by conv => lhs; whnf)) rfl) ?_)) | ((with_reducible refine AF.k_call ?_); first | refine AF.q 2 (SW.pcall (g := 57) rfl (by kernel_rfl) rfl ((by exact two_v hA rfl rfl rfl rfl rfl rfl rfl rfl)) rfl) ?_) | ((with_reducible refine AF.k_fieldAddr ?_); first | refine AF.q 0 (SW.q (OQ.fieldA (ty := 95) (i := 0) (n := 3) (off := 0) (g := true) rfl (by kernel_rfl) (by decide)) rfl) ?_ | refine AF.q 0 (SW.q (OQ.fieldA (ty := 95) (i := 1) (n := 3) (off := 3) (g := true) rfl (by kernel_rfl) (by decide)) rfl) ?_) | ((with_reducible refine AF.k_load ?_); first | refine AF.ql rfl (SW.q (OQ.loadN (ty := 24) (n := 3) rfl (by kernel_rfl) (by kernel_rfl) rfl) rfl) ?_) | ((with_reducible refine AF.k_assign ?_); first | (refine AF.q 0 (SW.q (OQ.assign (by conv => lhs; whnf)) rfl) ?_)) | ((with_reducible refine AF.k_extract ?_); first | refine AF.q 0 (SW.q (OQ.extract rfl rfl) rfl) ?_)); (conv => (arg 9; try tactic => exact nrmF)); (conv => (arg 11; try simp only [List.nil_append, List.cons_append])))
          | ((first | first | refine AF.n1 2 (SW.acall (g := 19) rfl (by kernel_rfl) rfl ((by first | exact Copy_q nm1 bd1 (l := l1) (.blk 0 _ rfl rfl rfl) (by omega) | exact Copy_q nm2 bd2 (l := l2) (.blk 1 _ rfl rfl rfl) (by omega))) rfl) rfl ?_ | refine AF.n1 2 (SW.acall (g := 58) rfl (by kernel_rfl) rfl ((by first | exact HT12 _ _ _ _ _ rfl rfl rfl rfl | exact HT21 _ _ _ _ _ rfl rfl rfl rfl)) rfl) rfl ?_ | refine AF.q 2 (SW.pcall (g := 58) rfl (by kernel_rfl) rfl ((by exact two_v hT11 rfl rfl rfl rfl rfl rfl rfl rfl)) rfl) ?_); (conv => (arg 9; try tactic => exact nrmF)); (conv => (arg 11; try simp only [List.nil_append, List.cons_append])); (conv => (arg 10; try tactic => exact nrmF)))
          | (refine AF.nil ?_ (by kernel_rfl); (conv => (arg 4; simp only [List.drop_succ_cons, List.drop_zero, List.drop_nil]))))
        | ((with_reducible refine FinP.on ?_); (first | refine FinP.ret (.tmp (by conv => lhs; whnf) .nil) ?_ rfl | refine FinP.end (.tmp (by conv => lhs; whnf) .nil) ?_ rfl); (try simp only [pack, List.drop, List.take]); all_goals ((first | rfl | (simp; done)))))
end
end Go.Proofs.Ythpjhpfebjjanaa
end

section
section
namespace Go.Proofs.Ythpjhpfebjjanaa
open Go.ChangeShapes Go.WideShapes Go.ChangeAt Go Go.RowKit Go.Ob Go.Ab
set_option maxRecDepth 100000
theorem cells_pr : Try.prog.cellsOf 95 = 6 := by kernel_rfl
section
variable {H : Type} {enc : TypeId × Value → H} {w : World} {base : Nat} {spare : Nat → Bool} {held : Bool}
theorem open_pair {r : Reach} {b0 : Nat} {v : Value} {d : DataW H} {p : List MemPlace} (hv : Value.okWide Try.prog w r b0 95 v) (h : DataW.Trod enc Try.prog w base spare held 95 v d p) :
    ∃ nm bd a l cap nm' bd' a' l' cap', v = .agg #[.string nm, .int .i64 bd, .slice a (List.length (α := St) l) cap, .string nm', .int .i64 bd', .slice a' (List.length (α := St) l') cap'] ∧ nm.size ≤ maxLen ∧ l.length ≤ cap ∧ cap ≤ maxLen ∧ SlSts w a l ∧ (a = none → cap = 0) ∧
      nm'.size ≤ maxLen ∧ l'.length ≤ cap' ∧ cap' ≤ maxLen ∧ SlSts w a' l' ∧ (a' = none → cap' = 0) := by
  obtain ⟨cs, rfl, hsz⟩ := okWide_struct Try.underlying95 hv
  obtain ⟨l⟩ := cs
  match l, hsz.trans cells_pr with
  | [c0, c1, c2, c3, c4, c5], _ =>
    obtain ⟨fuel, hf⟩ := h
    obtain ⟨xs, n, _, hx, _, hlen, hg⟩ := DataW.trod_struct Try.underlying95 hf
    match xs, hlen with
    | [y0, y1], _ =>
      have g0 : DataW.trod enc Try.prog w base spare held n 24 [c0, c1, c2] = some y0 := hg 0 _ rfl
      have g1 : DataW.trod enc Try.prog w base spare held n 24 [c3, c4, c5] = some y1 := hg 1 _ rfl
      obtain ⟨nm, bd, a, l, cap, rfl, rfl, rfl, h1, h2, h3, h4, h5⟩ := open_orb g0
      obtain ⟨nm', bd', a', l', cap', rfl, rfl, rfl, k1, k2, k3, k4, k5⟩ := open_orb g1
      exact ⟨nm, bd, a, l, cap, nm', bd', a', l', cap', rfl, h1, h2, h3, h4, h5, k1, k2, k3, k4, k5⟩
end
def renO (p0 p1 : Option Pl) : Ren := fun b => if b = 0 then p0 else if b = 1 then p1 else none
theorem glueP {f : FuncId} {nm1 nm2 : ByteArray} {bd1 bd2 : Int} {a1 a2 : Option Addr} {l1 l2 : List St} {cap1 cap2 : Nat} {u : Value} {w : World} (hu : flat u = true) (h1 : SlSts w a1 l1) (h2 : SlSts w a2 l2) (c1 : l1.length ≤ cap1) (c2 : l2.length ≤ cap2) (z1 : a1 = none → cap1 = 0) (z2 : a2 = none → cap2 = 0)
    (h : PCalls Try.prog f [prP nm1 bd1 (va 0 l1 a1.isNone) nm2 bd2 (va 1 l2 a2.isNone), u] [bl l1, bl l2] (.bool true)) :
    Calls Try.prog f #[.agg #[.string nm1, .int .i64 bd1, .slice a1 l1.length cap1, .string nm2, .int .i64 bd2, .slice a2 l2.length cap2], u] w fun e w' => e = .returned (.bool true) ∧ Below w.heap.size w w' := by
  refine (h (renO (plO a1 l1) (plO a2 l2)) _ w (fun b pl hb => ?_) ?_ (fun b blk hb => ?_)).mono fun e w' ⟨v', he, hr, hb⟩ => ⟨by rw [he, hr.bool], hb⟩
  · unfold renO at hb
    simp
    split at hb
    · omega
    · split at hb
      · omega
      · cases hb
  · refine .tuple rfl fun i h h' => ?_
    match i, h with
    | 0, _ =>
      refine .agg rfl fun j g g' => ?_
      match j, g with
      | 0, _ => exact .scal rfl
      | 1, _ => exact .scal rfl
      | 2, _ => exact va_rel h1 c1 z1 rfl
      | 3, _ => exact .scal rfl
      | 4, _ => exact .scal rfl
      | 5, _ => exact va_rel h2 c2 z2 rfl
    | 1, _ => exact .flat hu
  · have hlt := Mem.at_lt hb
    match b, hlt with
    | 0, _ =>
      obtain ⟨pl, k1, k2⟩ := bl_rel (ρ := renO (plO a1 l1) (plO a2 l2)) (i := 0) h1 rfl hb
      exact ⟨pl, k1, k2, fun ho => by rw [bl_ro l1 _ hb] at ho; cases ho⟩
    | 1, _ =>
      obtain ⟨pl, k1, k2⟩ := bl_rel (ρ := renO (plO a1 l1) (plO a2 l2)) (i := 1) h2 rfl hb
      exact ⟨pl, k1, k2, fun ho => by rw [bl_ro l2 _ hb] at ho; cases ho⟩
    | b + 2, h => simp at h; omega

theorem tchL_len {a0 a1 b0 b1 : Int} {dd : Int → Bool} (ha : a0 ≤ a1) (h : a0 ≤ b0) (hb : b0 ≤ b1) : (tchL a0 a1 b0 b1 dd).length ≤ (a1 + 1 - a0).toNat + (b1 + 1 - b0).toNat := by
  obtain ⟨s, hs⟩ : ∃ s, s = if b0 < a1 + 1 then a1 + 1 else b0 := ⟨_, rfl⟩
  have h0 : b0 ≤ s := by rw [hs]; split <;> omega
  rw [← touch_ref ha h hb hs]
  have h1 := rf_len (runTo (tch a0 a1 b0 b1 dd) a0 (a1 + 1 - a0).toNat) (fun _ => true) s (b1 + 1 - s).toNat
  have h2 := run_len (tch a0 a1 b0 b1 dd) a0 (a1 + 1 - a0).toNat
  omega
theorem Touched_self (z1 z2 : Nat) {l : List St} {nm : ByteArray} {bd : Int} (hn : nm.size ≤ 1000) (hR : Right bd l) (he : (orbE nm.data.toList bd l).2 = 0) : PCalls Try.prog 58 [obI nm bd 0 l, obI nm bd 1 l] (two l l z1 z2) (.tuple #[.slice none 0 0, .int .i64 0]) := by
  have := fl_le hR
  exact Touched_0 z1 z2 hn hn hR hR he he ⟨by omega, by omega⟩ (tchL_self _ _ _ fun t => bxN_self _)
theorem Touched_any (z1 z2 : Nat) {l1 l2 : List St} {nm1 nm2 : ByteArray} {bd1 bd2 : Int} (hn1 : nm1.size ≤ 1000) (hn2 : nm2.size ≤ 1000) (hR1 : Right bd1 l1) (hR2 : Right bd2 l2) (he1 : (orbE nm1.data.toList bd1 l1).2 = 0) (he2 : (orbE nm2.data.toList bd2 l2).2 = 0) (hbr : lastT l1 - frstT l1 ≤ 300)
    (hne : tchL (frstT l1) (lastT l1) (frstT l2) (lastT l2) (tcD bd1 bd2 l1 l2) ≠ []) :
    ACalls Try.prog 58 [obI nm1 bd1 0 l1, obI nm2 bd2 1 l2] (two l1 l2 z1 z2) (.tuple #[rgV 2 (tchL (frstT l1) (lastT l1) (frstT l2) (lastT l2) (tcD bd1 bd2 l1 l2)), .int .i64 0])
      [some ⟨flatS l1, false, z1⟩, some ⟨flatS l2, false, z2⟩, rgB (tchL (frstT l1) (lastT l1) (frstT l2) (lastT l2) (tcD bd1 bd2 l1 l2))] := by
  by_cases h1 : lastT l1 < frstT l2
  · exact Touched_n1 z1 z2 hn1 hn2 hR1 hR2 he1 he2 (by simpa using h1) _
  · by_cases h2 : lastT l2 < frstT l1
    · exact Touched_n2 z1 z2 hn1 hn2 hR1 hR2 he1 he2 (by simpa using h2) _
    · exact Touched_y z1 z2 hn1 hn2 hR1 hR2 he1 he2 hbr ⟨by omega, by omega⟩ hne
theorem tchL_swap {l1 l2 : List St} {bd1 bd2 : Int} : tchL (frstT l1) (lastT l1) (frstT l2) (lastT l2) (tcD bd1 bd2 l1 l2) = tchL (frstT l2) (lastT l2) (frstT l1) (lastT l1) (tcD bd2 bd1 l2 l1) := by
  rw [tchL_comm, tcD_comm]
theorem rTouched_any (z1 z2 : Nat) {l1 l2 : List St} {nm1 nm2 : ByteArray} {bd1 bd2 : Int} (hn1 : nm1.size ≤ 1000) (hn2 : nm2.size ≤ 1000) (hR1 : Right bd1 l1) (hR2 : Right bd2 l2) :
    ACalls Try.prog 59 [obI nm1 bd1 0 l1, obI nm2 bd2 1 l2] (two l1 l2 z1 z2) (rgV 2 (tchL (frstT l1) (lastT l1) (frstT l2) (lastT l2) (tcD bd1 bd2 l1 l2)))
      [some ⟨flatS l1, false, z1⟩, some ⟨flatS l2, false, z2⟩, rgB (tchL (frstT l1) (lastT l1) (frstT l2) (lastT l2) (tcD bd1 bd2 l1 l2))] := by
  by_cases h : frstT l1 ≤ frstT l2
  · exact rTouched_1 z1 z2 hn1 hn2 hR1 hR2 h
  · rw [tchL_swap]
    exact rTouched_2 z1 z2 hn1 hn2 hR1 hR2 (by omega)
end Go.Proofs.Ythpjhpfebjjanaa
end

section
namespace Go.Proofs.Ythpjhpfebjjanaa.OrbitAgrees
open Go.ChangeShapes Go.WideShapes Go.ChangeAt Go Go.RowKit Go.Ob Go.Ab Go.Proofs.Ythpjhpfebjjanaa
set_option maxRecDepth 100000
theorem walk (nm1 nm2 : ByteArray) (bd1 bd2 : Int) (a1 a2 : Option Addr) (l1 l2 : List St) (cap1 cap2 : Nat) (t : Int) (w : World) (hn1 : nm1.size ≤ maxLen) (hc1 : l1.length ≤ cap1) (hm1 : cap1 ≤ maxLen) (hS1 : SlSts w a1 l1) (hz1 : a1 = none → cap1 = 0)
    (hn2 : nm2.size ≤ maxLen) (hc2 : l2.length ≤ cap2) (hm2 : cap2 ≤ maxLen) (hS2 : SlSts w a2 l2) (hz2 : a2 = none → cap2 = 0) :
    Calls Try.prog 13 #[.agg #[.string nm1, .int .i64 bd1, .slice a1 l1.length cap1, .string nm2, .int .i64 bd2, .slice a2 l2.length cap2], .int .i64 t] w fun e w' => e = .returned (.bool true) ∧ Below w.heap.size w w' := by
  simp only [maxLen] at hn1 hm1 hn2 hm2
  refine glueP rfl hS1 hS2 hc1 hc2 hz1 hz2 ?_
  cases hf : ((fewB nm1.size l1.length && briefB nm1.data.toList bd1 l1) && (fewB nm2.size l2.length && briefB nm2.data.toList bd2 l2)) with
  | false => exact AgL_no t _ _ hS1.wf hS2.wf (by omega) (by omega) (by omega) (by omega) hf
  | true =>
    rw [Bool.and_eq_true] at hf
    obtain ⟨hf1, hf2⟩ := hf
    have hg1 := hf1
    have hg2 := hf2
    rw [Bool.and_eq_true] at hg1 hg2
    obtain ⟨k1, k2⟩ := fewB_spec hg1.1
    obtain ⟨k3, k4⟩ := fewB_spec hg2.1
    have ho1 : Ors nm1 l1 := ⟨by omega, hS1.wf, by omega⟩
    have ho2 : Ors nm2 l2 := ⟨by omega, hS2.wf, by omega⟩
    by_cases he : firstE [(orbE nm1.data.toList bd1 l1).2, (orbE nm2.data.toList bd2 l2).2] = 0
    · have he1 : (orbE nm1.data.toList bd1 l1).2 = 0 := by
        unfold firstE at he
        split at he
        · assumption
        · contradiction
      have he2 : (orbE nm2.data.toList bd2 l2).2 = 0 := by
        unfold firstE firstE at he
        rw [if_pos he1] at he
        split at he
        · assumption
        · contradiction
      have hR1 := (orbE_right he1).1
      have hR2 := (orbE_right he2).1
      have hb1 : lastT l1 - frstT l1 ≤ 200 := by
        rcases of_decide_eq_true hg1.2 with h | h
        · exact absurd he1 h
        · exact h
      have hb2 : lastT l2 - frstT l2 ≤ 200 := by
        rcases of_decide_eq_true hg2.2 with h | h
        · exact absurd he2 h
        · exact h
      have hl1 : l1 ≠ [] := fun h => by have := hR1.n2; rw [h] at this; simp at this
      have hl2 : l2 ≠ [] := fun h => by have := hR2.n2; rw [h] at this; simp at this
      rw [show va 0 l1 a1.isNone = .slice (some ⟨0, 0, none⟩) l1.length INF by unfold va; rw [if_neg hl1], show va 1 l2 a2.isNone = .slice (some ⟨1, 0, none⟩) l2.length INF by unfold va; rw [if_neg hl2],
        show [bl l1, bl l2] = two l1 l2 0 0 by unfold bl; rw [if_neg hl1, if_neg hl2]]
      have m1 : nm1.size ≤ 1000 := by omega
      have m2 : nm2.size ≤ 1000 := by omega
      obtain ⟨n, e, hA, hxy⟩ : ∃ n e : Int, (∀ z1 z2, PCalls Try.prog 57 [obI nm1 bd1 0 l1, obI nm2 bd2 1 l2, .int .i64 t] (two l1 l2 z1 z2) (.tuple #[.int .i64 n, .int .i64 e])) ∧
          (((rngB t (frstT l1) (lastT l1) && rngB t (frstT l2) (lastT l2)) = true ∧ e = 0 ∧ ∀ z1 z2, PCalls Try.prog 61 [obI nm1 bd1 0 l1, obI nm2 bd2 1 l2, .int .i64 t] (two l1 l2 z1 z2) (.int .i64 n)) ∨ ((rngB t (frstT l1) (lastT l1) && rngB t (frstT l2) (lastT l2)) = false ∧ e = 2 ∧ n = 0)) := by
        cases hh : (rngB t (frstT l1) (lastT l1) && rngB t (frstT l2) (lastT l2)) with
        | true =>
          have hh' := hh
          rw [Bool.and_eq_true] at hh'
          exact ⟨_, 0, fun z1 z2 => Agree_y t z1 z2 m1 m2 hR1 hR2 he1 he2 (rngB_true.1 hh'.1) (rngB_true.1 hh'.2), .inl ⟨rfl, rfl, fun z1 z2 => rAgree_c t z1 z2 m1 m2 hR1 hR2 (rngB_true.1 hh'.1) (rngB_true.1 hh'.2)⟩⟩
        | false => exact ⟨0, 2, fun z1 z2 => Agree_r t z1 z2 m1 m2 hR1 hR2 he1 he2 hh, .inr ⟨rfl, rfl, rfl⟩⟩
      by_cases hT : tchL (frstT l1) (lastT l1) (frstT l2) (lastT l2) (tcD bd1 bd2 l1 l2) = []
      · have hT' := hT
        rw [tchL_swap] at hT'
        have hco : frstT l1 ≤ lastT l2 ∧ frstT l2 ≤ lastT l1 := by
          have f1 := fl_le hR1
          have f2 := fl_le hR2
          by_cases h1 : lastT l1 < frstT l2
          · rw [← touch_none f1.1 h1 f2.1] at hT
            exact absurd hT (jn_ne (by simp))
          · by_cases h2 : lastT l2 < frstT l1
            · rw [← touch_none f2.1 h2 f1.1] at hT'
              exact absurd hT' (jn_ne (by simp))
            · omega
        exact AgL_0 t m1 m2 hR1 hR2 he1 he2 hf1 hf2 (fun z1 z2 => Touched_0 z1 z2 m1 m2 hR1 hR2 he1 he2 hco hT) (fun z1 z2 => Touched_0 z1 z2 m2 m1 hR2 hR1 he2 he1 ⟨hco.2, hco.1⟩ hT') (fun z1 z2 => hT ▸ rTouched_any z1 z2 m1 m2 hR1 hR2)
          (fun z1 z2 => Touched_self z1 z2 m1 hR1 he1) n e hA hxy
      · have hT' := hT
        rw [tchL_swap] at hT'
        have hlen : (tchL (frstT l1) (lastT l1) (frstT l2) (lastT l2) (tcD bd1 bd2 l1 l2)).length ≤ 100000 := by
          have f1 := fl_le hR1
          have f2 := fl_le hR2
          by_cases h : frstT l1 ≤ frstT l2
          · have := tchL_len (dd := tcD bd1 bd2 l1 l2) f1.1 h f2.1
            omega
          · rw [tchL_swap]
            have := tchL_len (dd := tcD bd2 bd1 l2 l1) f2.1 (by omega) f1.1
            omega
        exact AgL_y t m1 m2 hR1 hR2 he1 he2 hf1 hf2 _ hlen hT (fun z1 z2 => Touched_any z1 z2 m1 m2 hR1 hR2 he1 he2 (by omega) hT) (fun z1 z2 => tchL_swap (l1 := l1) (l2 := l2) ▸ Touched_any z1 z2 m2 m1 hR2 hR1 he2 he1 (by omega) hT') (fun z1 z2 => rTouched_any z1 z2 m1 m2 hR1 hR2)
          (fun z1 z2 => Touched_self z1 z2 m1 hR1 he1) n e hA hxy
    · exact AgL_e t _ _ ho1 ho2 _ _ rfl rfl hf1 hf2 ⟨by omega, by omega⟩ he

set_option maxRecDepth 100000 in
theorem lifted (os : Os) (started : os.Started) (H : Type) (enc : TypeId × Value → H) :
    ReturnsInHanded {} Try.checked os 13 .any (Rows.orbitAgreesSpec.pre6 enc Try.prog Try.f13 Rows.orbitAgreesRow.domain false) (Rows.orbitAgreesSpec.post enc Try.prog Try.f13 false true false false) := by
  refine returnsInHanded_of_change (C := Try.checked) own started (by kernel_rfl) Try.func13
    (ChangeSpec.witness6 (enc := enc) (C := Try.checked) false ⟨#[], #[.agg #[.string ⟨#[]⟩, .int .i64 0, .slice none 0 0, .string ⟨#[]⟩, .int .i64 0, .slice none 0 0], .int .i64 0], []⟩ 8 (by kernel_rfl) (by kernel_rfl) (by kernel_rfl) (by kernel_rfl)) ?_
  intro W base args ds gs before hval0 hW hcnd _
  have hval : ∀ (j : Nat) t v, Try.f13.params[j]? = some t → args[j]? = some v → Value.okWide Try.prog W .any base t v := hval0
  have hW' := hW
  obtain ⟨p, q, hA0, hV, rfl, hfz, hnd⟩ := hW
  have hA : DataW.TrodAll enc Try.prog W 0 (fun _ => true) true Try.f13.params.toList args.toList ds p := hA0
  rw [Try.params13] at hA hval
  obtain ⟨v0, vs0, d0, ds0, p0, q0, hargs, rfl, rfl, h0, r0⟩ := trodAll_cons hA
  obtain ⟨v1, vs1, d1, ds1, p1, q1, rfl, rfl, rfl, h1, r1⟩ := trodAll_cons r0
  obtain ⟨rfl, rfl, rfl⟩ := trodAll_nil r1
  obtain rfl : args = #[v0, v1] := by cases args; simp_all
  obtain ⟨rfl, rfl⟩ := trodVars_none hV
  clear hA0 hval0
  have hlt := hW'.lt
  have g0 := h0
  have g1 := h1
  obtain ⟨nm0, bd0, a0, l0, cap0, nn0, be0, aa0, ll0, cc0, rfl, hnm0, hcap0, hcm0, hS0, hz0, hnn0, hcc0, hcn0, hT0, hy0⟩ := open_pair (hval 0 95 v0 rfl rfl) h0
  obtain ⟨x1, rfl, -, -, wx1⟩ := open_int Try.underlying3 (hval 1 3 v1 rfl rfl) h1
  simp only [List.append_nil] at hW' hlt ⊢
  refine (walk nm0 nn0 bd0 be0 a0 aa0 l0 ll0 cap0 cc0 x1 W hnm0 hcap0 hcm0 hS0 hz0 hnn0 hcc0 hcn0 hT0 hy0).mono fun e W' ⟨he, hb⟩ => ?_
  subst he
  have stay : ∀ (t : TypeId) v d ps (sp : Nat → Bool), Try.prog.readableRec t = true → t < Try.prog.types.size → DataW.Trod enc Try.prog W 0 (fun _ => true) true t v d ps → (∀ x ∈ ps, x.block < W.heap.size) → (∀ x ∈ ps, sp x.block = true) → DataW.Trod enc Try.prog W' 0 sp true t v d ps :=
    fun t v d ps sp hr ht h hx hs => Go.WideElems.Trod_stays laid hr ht h (fun x hxp => hb.same (hx x hxp)) hs
  exact ⟨_, rfl, post_below (pa := p0 ++ (p1 ++ [])) (pv := []) hW' (fun _ _ _ => trodAll_mk1 (shut_bool Try.underlying4 true)) (fun sp hs => (trodAll_cons_mk (stay 95 _ _ _ sp (by kernel_rfl) (of_decide_eq_true (by kernel_rfl)) g0 (fun x hx => hlt x (by simp [hx])) (fun x hx => hs x (by simp [hx]))) (trodAll_cons_mk (stay 3 _ _ _ sp (by kernel_rfl) (of_decide_eq_true (by kernel_rfl)) g1 (fun x hx => hlt x (by simp [hx])) (fun x hx => hs x (by simp [hx]))) (trodAll_mk0)))) (fun _ _ => rfl) (by simp)
    hb (ok_one (by kernel_rfl) rfl (okWide_bool_mk Try.underlying4 true))⟩

theorem over : Rows.orbitAgreesRow.holds Try.pinned (OpenSpec.ofChange Rows.orbitAgreesSpec) :=
  OpenClaim.holds_of_wide 13 Try.f13 rfl rfl rfl rfl rfl rfl rfl ⟨rfl, rfl, rfl, rfl, rfl⟩ rfl rfl rfl rfl rfl (by kernel_rfl) Try.func13 (by kernel_rfl)
    (of_decide_eq_true (by kernel_rfl)) (by unfold Func.isWrapper; first | (rw [if_pos (by decide +kernel)]; kernel_rfl) | (rw [if_neg (by decide +kernel)]; exact ⟨rfl, rfl⟩))
    (fun os started H enc _ => lifted os started H enc)

/-- The statement. -/
theorem proved : Rows.OrbitAgreesSaid := over
#print axioms proved
end Go.Proofs.Ythpjhpfebjjanaa.OrbitAgrees
end
end
