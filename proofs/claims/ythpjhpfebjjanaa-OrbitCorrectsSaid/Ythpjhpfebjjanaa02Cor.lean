/- Chapter 2 in plain Lean: what the correction of a state touches. -/
/- OrbitCorrects: the walks of the statement; the statement. -/
/- OrbitCorrects: the statement. -/
import Derived.Test.Ythpjhpfebjjanaa02tc
import Derived.Test.Ythpjhpfebjjanaa02Ca
import Derived.Test.Ythpjhpfebjjanaa02Gl
import Derived.Test.YthpjhpfebjjanaaAbJ
set_option linter.unusedSimpArgs false
set_option linter.unusedVariables false
section
namespace Go.Proofs.Ythpjhpfebjjanaa
open Go Go.Ob Go.Ab
set_option maxRecDepth 100000
theorem set_at {l : List St} {k : Nat} {s : St} (j : Nat) (hj : j ≠ k) : at_ (l.set k s) j = at_ l j := by
  unfold at_
  rw [List.getD_eq_getElem?_getD, List.getD_eq_getElem?_getD, List.getElem?_set_ne (by omega)]
theorem set_k {l : List St} {k : Nat} {s : St} (hk : k < l.length) : at_ (l.set k s) k = s := by
  unfold at_
  rw [List.getD_eq_getElem?_getD, List.getElem?_set_self hk]
  rfl
theorem set_t {l : List St} {k : Nat} {s : St} (hk : k < l.length) (ht : s.t = (at_ l k).t) (j : Nat) : (at_ (l.set k s) j).t = (at_ l j).t := by
  by_cases h : j = k
  · subst h
    rw [set_k hk, ht]
  · rw [set_at j h]
theorem idx_set {bd : Int} {l : List St} {k : Nat} {s : St} (hR : Right bd l) (hk : k < l.length) (ht : s.t = (at_ l k).t) {t : Int} (h1 : t ≤ lastT l) : idx (l.set k s) t = idx l t := by
  have hi := idx_lt hR h1
  refine idx_of _ t (idx l t) (by rw [List.length_set]; omega) (fun j hj => ?_) (fun _ => ?_)
  · rw [set_t hk ht]
    exact idx_take l t j hj
  · rw [set_t hk ht]
    exact idx_stop l t hi
theorem set_ends {l : List St} {k : Nat} {s : St} (hk : k < l.length) (ht : s.t = (at_ l k).t) : frstT (l.set k s) = frstT l ∧ lastT (l.set k s) = lastT l := by
  unfold frstT lastT
  rw [List.length_set]
  exact ⟨set_t hk ht _, set_t hk ht _⟩
/-- The ticks of a state's neighbours. -/
def loT (l : List St) (k : Nat) : Int := (at_ l (k - 1)).t
def hiT (l : List St) (k : Nat) : Int := (at_ l (if k + 1 < l.length then k + 1 else l.length - 1)).t
theorem bx_set {bd : Int} {l : List St} {k : Nat} {s : St} (hR : Right bd l) (hk : k < l.length) (ht : s.t = (at_ l k).t) {t : Int} (h0 : frstT l ≤ t) (h1 : t ≤ lastT l) (h : t < loT l k ∨ hiT l k < t) : bx bd (l.set k s) t = bx bd l t := by
  have hi := idx_lt hR h1
  have hx := idx_set hR hk ht h1
  have hst := idx_stop l t hi
  have hne : idx l t ≠ k ∧ ((at_ l (idx l t)).t = t ∨ idx l t - 1 ≠ k) := by
    rcases h with h | h
    · unfold loT at h
      have hk1 : 1 ≤ k := by
        rcases Nat.eq_zero_or_pos k with e | e
        · subst e; unfold frstT at h0; simp at h; omega
        · exact e
      have hle : idx l t ≤ k - 1 := by
        apply Classical.byContradiction
        intro hn
        have := idx_take l t (k - 1) (by omega)
        omega
      exact ⟨by omega, .inr (by omega)⟩
    · unfold hiT at h
      by_cases hk1 : k + 1 < l.length
      · rw [if_pos hk1] at h
        have hlt : k + 1 < idx l t := by
          apply Classical.byContradiction
          intro hn
          have := hR.le (idx l t) (k + 1) (by omega) hk1
          omega
        exact ⟨by omega, .inr (by omega)⟩
      · rw [if_neg hk1] at h
        unfold lastT at h1
        omega
  unfold bx
  congr 1
  by_cases hf : (at_ l (idx l t)).t = t
  · unfold pt
    rw [hx, set_at _ hne.1, if_pos hf, if_pos hf]
  · have hf' : ¬ (at_ (l.set k s) (idx (l.set k s) t)).t = t := by rw [hx, set_at _ hne.1]; exact hf
    rw [pt_bent hf, pt_bent hf', hx, set_at _ hne.1, set_at _ (hne.2.resolve_left hf)]
/-- A range of a run begins and ends where it is so. -/
theorem run_ends (T : Int → Bool) (a : Int) : ∀ k, ∀ r ∈ runTo T a k, (T r.1 = true ∧ a ≤ r.1 ∧ r.1 < a + k) ∧ T r.2 = true ∧ a ≤ r.2 ∧ r.2 < a + k
  | 0, r, h => by simp [runTo] at h
  | k + 1, r, h => by
    have ih := run_ends T a k
    unfold runTo at h
    split at h
    · rename_i hT
      rcases List.eq_nil_or_concat (runTo T a k) with e | ⟨L, ⟨x, y⟩, e⟩
      · rw [e] at h
        simp only [grow, List.getLast?_nil, List.mem_singleton] at h
        subst h
        exact ⟨⟨hT, by simp; omega, by simp; omega⟩, hT, by simp; omega, by simp; omega⟩
      · rw [List.concat_eq_append] at e
        rw [e] at ih h
        rw [grow_eq] at h
        have hl := ih (x, y) (by simp)
        by_cases hy : y = a + k - 1
        · rw [jn1_last _ _ _ _ hy, List.mem_append, List.mem_singleton] at h
          rcases h with h | h
          · have := ih r (by simp [h])
            exact ⟨⟨this.1.1, this.1.2.1, by omega⟩, this.2.1, this.2.2.1, by omega⟩
          · subst h
            exact ⟨⟨hl.1.1, hl.1.2.1, by have := hl.1.2.2; simp at this ⊢; omega⟩, hT, by simp; omega, by simp; omega⟩
        · rw [jn1_new _ _ _ _ hy, List.mem_append, List.mem_singleton] at h
          rcases h with h | h
          · have := ih r h
            exact ⟨⟨this.1.1, this.1.2.1, by omega⟩, this.2.1, this.2.2.1, by omega⟩
          · subst h
            exact ⟨⟨hT, by simp; omega, by simp; omega⟩, hT, by simp; omega, by simp; omega⟩
    · have := ih r h
      exact ⟨⟨this.1.1, this.1.2.1, by omega⟩, this.2.1, this.2.2.1, by omega⟩
/-- A state that is corrected at its tick touches no ticks beyond its neighbours. -/
theorem touch_in {bd : Int} {l : List St} {k : Nat} {s : St} (hR : Right bd l) (hk : k < l.length) (ht : s.t = (at_ l k).t) :
    ∀ r ∈ tchL (frstT l) (lastT l) (frstT (l.set k s)) (lastT (l.set k s)) (tcD bd bd l (l.set k s)), (loT l k ≤ r.1) ∧ r.2 ≤ hiT l k := by
  obtain ⟨e1, e2⟩ := set_ends hk ht
  rw [e1, e2]
  intro r hr
  unfold tchL at hr
  rw [if_neg (by omega), if_neg (by omega)] at hr
  obtain ⟨⟨a1, a2, a3⟩, b1, b2, b3⟩ := run_ends _ _ _ r hr
  have key : ∀ t, frstT l ≤ t → t ≤ lastT l → tch (frstT l) (lastT l) (frstT l) (lastT l) (tcD bd bd l (l.set k s)) t = true → loT l k ≤ t ∧ t ≤ hiT l k := by
    intro t h0 h1 hT
    rw [tch_both ⟨h0, h1⟩ ⟨h0, h1⟩] at hT
    apply Classical.byContradiction
    intro hn
    have := bx_set hR hk ht h0 h1 (s := s) (by omega)
    unfold tcD at hT
    rw [this, bxN_self] at hT
    cases hT
  have f := fl_le hR
  exact ⟨(key r.1 (by omega) (by omega) a1).1, (key r.2 (by omega) (by omega) b1).2⟩
theorem loT_eq (l : List St) (k : Nat) : loT l k = (at_ l (k - 1)).t := rfl
end Go.Proofs.Ythpjhpfebjjanaa
end

section
namespace Go.Proofs.Ythpjhpfebjjanaa
open Go Go.RowKit Go.Ob Go.Ab
set_option maxRecDepth 100000
set_option maxHeartbeats 4000000
theorem Within_c (n lo hi : Int) (m : Mem) : PCalls Try.prog 22 [.int .i64 n, .int .i64 lo, .int .i64 hi] m (.bool (rngB n lo hi)) := PCalls.of_same rfl rfl fun w => rWithin_any n lo hi w
theorem brief_c {m : Mem} {v : Value} {l : List St} {nm : ByteArray} {bd : Int} (hS : SlB m v l) (hwf : ∀ k, k < l.length → -9223372036854775808 ≤ (at_ l k).t ∧ (at_ l k).t ≤ 9223372036854775807) (hl : (l.length : Int) ≤ 9223372036854775807) (hnm : (nm.size : Int) ≤ 9223372036854775807) :
    PCalls Try.prog 17 [obW nm bd v] m (.bool (fewB nm.size l.length && briefB nm.data.toList bd l)) := by
  intro ρ args' w hdom hargs hm
  obtain ⟨xs', e, h1, hg⟩ := hargs.tuple_inv
  cases e
  obtain ⟨u, e0, r0⟩ := hg 0 _ rfl
  obtain ⟨cs, rfl, hs, hg'⟩ := r0.agg_inv
  obtain ⟨u0, f0, q0⟩ := hg' 0 _ rfl
  obtain ⟨u1, f1, q1⟩ := hg' 1 _ rfl
  obtain ⟨u2, f2, q2⟩ := hg' 2 _ rfl
  obtain ⟨a, cap, rfl, hSt, hcap⟩ := hS.real hwf hm q2
  have hcs : cs = #[.string nm, .int .i64 bd, .slice a l.length cap] := by
    refine Array.ext_getElem? fun i => ?_
    match i with
    | 0 => rw [f0, q0.string]; rfl
    | 1 => rw [f1, q1.int]; rfl
    | 2 => exact f2
    | i + 3 => rw [Array.getElem?_eq_none (by simp at hs; omega), Array.getElem?_eq_none (by simp)]
  have : args' = #[obV nm bd a l.length cap] := by
    refine Array.ext_getElem? fun i => ?_
    match i with
    | 0 => rw [e0, hcs]; rfl
    | i + 1 => rw [Array.getElem?_eq_none (by simp at h1; omega), Array.getElem?_eq_none (by simp)]
  subst this
  cases hf : fewB nm.size l.length with
  | false => exact (Brief_no nm bd a l.length cap w hl hnm hf).mono fun e w' ⟨he, hb⟩ => ⟨_, he, .scal rfl, hb⟩
  | true => exact (Brief_yes nm bd a cap l w ⟨by have := (fewB_spec hf).1; omega, hSt, hcap, by omega⟩ hf).mono fun e w' ⟨he, hb⟩ => ⟨_, he, .scal rfl, hb⟩

theorem Touched_anyC (z1 z2 : Nat) {l1 l2 : List St} {nm1 nm2 : ByteArray} {bd1 bd2 : Int} (hn1 : nm1.size ≤ 1000) (hn2 : nm2.size ≤ 1000) (hR1 : Right bd1 l1) (hR2 : Right bd2 l2) (he1 : (orbE nm1.data.toList bd1 l1).2 = 0) (he2 : (orbE nm2.data.toList bd2 l2).2 = 0) (hbr : lastT l1 - frstT l1 ≤ 300)
    (hne : tchL (frstT l1) (lastT l1) (frstT l2) (lastT l2) (tcD bd1 bd2 l1 l2) ≠ []) :
    ACalls Try.prog 58 [obI nm1 bd1 0 l1, obI nm2 bd2 1 l2] (two l1 l2 z1 z2) (.tuple #[rgV 2 (tchL (frstT l1) (lastT l1) (frstT l2) (lastT l2) (tcD bd1 bd2 l1 l2)), .int .i64 0])
      [some ⟨flatS l1, false, z1⟩, some ⟨flatS l2, false, z2⟩, rgB (tchL (frstT l1) (lastT l1) (frstT l2) (lastT l2) (tcD bd1 bd2 l1 l2))] := by
  by_cases h1 : lastT l1 < frstT l2
  · exact Touched_n1 z1 z2 hn1 hn2 hR1 hR2 he1 he2 (by simpa using h1) _
  · by_cases h2 : lastT l2 < frstT l1
    · exact Touched_n2 z1 z2 hn1 hn2 hR1 hR2 he1 he2 (by simpa using h2) _
    · exact Touched_y z1 z2 hn1 hn2 hR1 hR2 he1 he2 hbr ⟨by omega, by omega⟩ hne
/-- A call that reads the states of one orbit and makes others. -/
theorem via_e {P : Program} {f : FuncId} {args0 args : List Value} {cs cs' : List Value} {z' : Nat} {v0 v : Value} {m : Mem} {b : Nat} {blk : Blk} (hb : m.at b = some blk) (hc : blk.cells = cs) (hs : cs.all scal = true) (hs' : cs'.all scal = true)
    (h : ACalls P f args0 [some ⟨cs, false, blk.esz⟩] v0 [some ⟨cs, false, blk.esz⟩, some ⟨cs', true, z'⟩])
    (hargs : args0.map (rn3 fun _ => b) = args) (hk : args0.all (ok3 1) = true) (hv : rn3 (τn (fun _ => b) 1 m.length) v0 = v) (hkv : ok3 2 v0 = true) : ACalls P f args m v (m ++ [some ⟨cs', true, z'⟩]) := by
  refine ACalls.viaN (m0 := [some ⟨cs, false, blk.esz⟩]) (x := some ⟨cs', true, z'⟩) (fun _ => b) h (fun x bk hx => ?_) (fun x hx => ?_) (fun bk h => by cases h; exact ⟨rfl, hs'⟩) hargs hk hv hkv
  · have := Mem.at_lt hx
    match x, this with
    | 0, _ =>
      cases hx
      exact ⟨rfl, ok1_of_scal hs, blk, hb, rfl, fun j v hv => by rw [rn1_scal (List.all_eq_true.1 hs v (List.mem_of_getElem? hv)), hc]; exact hv⟩
    | x + 1, h => exact absurd h (by simp)
  · match x, hx with
    | 0, _ => exact ⟨_, rfl⟩
    | x + 1, h => exact absurd h (by simp)
theorem ro_bl (l : List St) : Mem.ro [bl l] := fun k blk hk => by
  have := Mem.at_lt hk
  match k, this with
  | 0, _ => exact bl_ro l _ hk
  | k + 1, h => simp at h
section
variable {l a b : List St} {nm : ByteArray} {bd : Int}
attribute [local irreducible] OQ OW AL AW AD AF SW
/-- An orbit that is not brief. -/
theorem CoL_no (k : Int) (s : St) (g : Bool) (hwf : ∀ k, k < l.length → -9223372036854775808 ≤ (at_ l k).t ∧ (at_ l k).t ≤ 9223372036854775807) (hl : (l.length : Int) ≤ 9223372036854775807) (hnm : (nm.size : Int) ≤ 9223372036854775807)
    (hf : (fewB nm.size l.length && briefB nm.data.toList bd l) = false) : PCalls Try.prog 14 [obW nm bd (va 0 l g), .int .i64 k, stV s] [bl l] (.bool true) := by
  have H1 := fun (m : Mem) (v : Value) (hS : SlB m v l) => brief_c (bd := bd) hS hwf hl hnm
  rw [hf] at H1
  refine PCalls.enter (t := [obW nm bd (va 0 l g), .int .i64 k, stV s, undef, undef, undef, undef, undef, undef, undef, undef, undef, undef, undef, undef, undef, undef, undef, undef, undef, undef, undef, undef, undef, undef, undef, undef, undef, undef, undef, undef, undef, undef, undef, undef, undef, undef, undef, undef, undef, undef, undef, undef, undef, undef, undef, undef, undef, undef, undef, undef, undef, undef, undef, undef, undef, undef, undef, undef, undef, undef, undef, undef, undef, undef, undef, undef, undef, undef, undef, undef, undef, undef, undef, undef, undef, undef, undef, undef, undef, undef, undef, undef, undef, undef, undef, undef, undef, undef, undef, undef, undef, undef, undef, undef, undef, undef, undef, undef, undef, undef, undef, undef, undef, undef, undef, undef, undef, undef, undef, undef, undef, undef, undef, undef, undef, undef, undef, undef, undef, undef, undef, undef, undef, undef, undef, undef, undef, undef, undef, undef, undef, undef, undef, undef, undef, undef, undef, undef, undef, undef, undef, undef, undef, undef, undef, undef, undef, undef, undef, undef, undef, undef, undef, undef, undef, undef, undef, undef, undef, undef, undef, undef, undef, undef, undef, undef, undef, undef, undef, undef, undef, undef, undef, undef, undef, undef, undef, undef, undef, undef, undef, undef, undef, undef, undef, undef, undef, undef, undef, undef, undef, undef, undef, undef, undef]) Try.func14 rfl (ro_bl _) rfl fun E => ?_
  repeat' (first
    | with_reducible refine Then.n ?_
    | with_reducible refine Then.r ?_
    | with_reducible refine Then.x ?_
    | with_reducible refine InB.n ?_
    | with_reducible refine InB.r ?_
    | with_reducible refine InB.hit ?_
    | with_reducible refine InB.miss (by decide) ?_
    | ((with_reducible refine AL.on ?_); first
      | (refine AL.gd rfl ?_; first | (refine AL.gskip rfl rfl ?_; (conv => (arg 5; try tactic => exact nrm))) | (refine AL.gs1 rfl rfl (fun hc => ?_) (fun hc => ?_) <;> (try simp only [decide_eq_true_eq, decide_eq_false_iff_not, Bool.not_true, Bool.not_false, Bool.not_eq_true', Bool.not_eq_false', Int.not_lt, Int.not_le, Classical.not_not, ne_eq] at hc) <;> first | (exfalso; first | contradiction | (first | omega | (simp_all; done)); done) | (conv => (arg 5; try tactic => exact nrm))) | (refine AL.gs0 rfl rfl (fun hc => ?_) (fun hc => ?_) <;> (try simp only [decide_eq_true_eq, decide_eq_false_iff_not, Bool.not_true, Bool.not_false, Bool.not_eq_true', Bool.not_eq_false', Int.not_lt, Int.not_le, Classical.not_not, ne_eq] at hc) <;> first | (exfalso; first | contradiction | (first | omega | (simp_all; done)); done) | (conv => (arg 5; try tactic => exact nrm))))
      | ((first | ((with_reducible refine AL.k_move ?_); first | (refine AL.q rfl (OQ.move (by conv => lhs; whnf)) ?_)) | ((with_reducible refine AL.k_load ?_); first | refine AL.q rfl (OQ.loadN (ty := 24) (n := 3) rfl (by kernel_rfl) (by kernel_rfl) rfl) ?_ | (refine AL.q rfl (OQ.load1 (ty := 22) rfl (by kernel_rfl) (by conv => lhs; whnf)) ?_) | (refine AL.q rfl (OQ.load1 (ty := 3) rfl (by kernel_rfl) (by conv => lhs; whnf)) ?_)) | ((with_reducible refine AL.k_call ?_); first | refine AL.q rfl (OQ.lenS (xt := 22) (r := (none, 5, true)) rfl (by kernel_rfl)) ?_ | refine AL.q rfl (OQ.lenS (xt := 29) (r := (none, 2, true)) rfl (by kernel_rfl)) ?_) | ((with_reducible refine AL.k_assign ?_); first | (refine AL.q rfl (OQ.assign (by conv => lhs; whnf)) ?_)) | ((with_reducible refine AL.k_binOp ?_); first | refine AL.q rfl (OQ.eql rfl rfl) ?_ | refine AL.q rfl (OQ.subi rfl rfl (by omega)) ?_ | refine AL.q rfl (OQ.sub rfl rfl) ?_ | refine AL.q rfl (OQ.neq rfl rfl) ?_ | refine AL.q rfl (OQ.gtr rfl rfl) ?_ | refine AL.q rfl (OQ.lss rfl rfl) ?_ | refine AL.q rfl (OQ.addi rfl rfl (by omega)) ?_ | refine AL.q rfl (OQ.add rfl rfl) ?_) | ((with_reducible refine AL.k_pick ?_); first | (refine AL.q rfl (OQ.pickT rfl (by with_reducible rfl) (by conv => lhs; whnf)) ?_) | (refine AL.q rfl (OQ.pickF rfl (by with_reducible rfl) (by conv => lhs; whnf)) ?_)) | ((with_reducible refine AL.k_fieldAddr ?_); first | refine AL.q rfl (OQ.fieldA (ty := 24) (i := 2) (n := 1) (off := 2) (g := false) rfl (by kernel_rfl) (by decide)) ?_ | refine AL.q rfl (OQ.fieldA (ty := 44) (i := 0) (n := 1) (off := 0) (g := false) rfl (by kernel_rfl) (by decide)) ?_ | refine AL.q rfl (OQ.fieldA (ty := 44) (i := 1) (n := 1) (off := 1) (g := false) rfl (by kernel_rfl) (by decide)) ?_) | ((with_reducible refine AL.k_unOp ?_); first | refine AL.q rfl (OQ.not rfl) ?_) | ((with_reducible refine AL.k_extract ?_); first | refine AL.q rfl (OQ.extract rfl rfl) ?_) | ((with_reducible refine AL.k_indexAddr ?_); first | refine AL.q rfl (OQ.idxAddr (ty := 29) (z := 2) (g := true) rfl rfl (by kernel_rfl) (by omega) (by omega)) ?_)); (conv => (arg 5; try tactic => exact nrm)))
      | ((first | ((with_reducible refine AL.k_call ?_); first | refine AL.pcall (g := 16) rfl (by kernel_rfl) rfl (awake_q _) ?_ | refine AL.pcall (g := 17) rfl (by kernel_rfl) rfl (H1 _ _ (SlB.arg (.inl rfl))) ?_) | ((with_reducible refine AL.k_build ?_); first | refine AL.q rfl (OQ.buildS (ty := 24) (zs := [.string ⟨#[]⟩, .int .i64 0, .slice none 0 0]) (pls := [(0, 1), (1, 1), (2, 1)]) (by kernel_rfl) rfl (by kernel_rfl) rfl rfl rfl) ?_)); (conv => (arg 5; try tactic => exact nrm)))
      | ((first | ((with_reducible refine AL.k_alloc ?_); first | refine AL.w rfl (OW.alloc (ty := 24) (z := [.string ⟨#[]⟩, .int .i64 0, .slice none 0 0]) (by kernel_rfl) rfl) ?_) | ((with_reducible refine AL.k_store ?_); first | (refine AL.w rfl (OW.store (ty := 24) (n := 3) rfl (by conv => lhs; whnf) rfl rfl (by kernel_rfl) rfl rfl (by decide) rfl (Nat.le_of_ble_eq_true rfl) (by intro r h; cases h)) ?_)) | ((with_reducible refine AL.k_box ?_); first | (refine AL.w rfl (OW.box (by conv => lhs; whnf) (by intro r h; cases h)) ?_))); (conv => (arg 5; try tactic => exact nrm)); (conv => (arg 6; try tactic => exact nrm)))
      | (refine AL.bs rfl (fun hc => ?_) (fun hc => ?_) <;> (fail_if_success (with_reducible exact lit_no hc)) <;> (try simp only [decide_eq_true_eq, decide_eq_false_iff_not, Bool.not_true, Bool.not_false, Bool.not_eq_true', Bool.not_eq_false', Int.not_lt, Int.not_le, Classical.not_not, ne_eq] at hc) <;> first | (exfalso; first | contradiction | (first | omega | (simp_all; done)); done) | (conv => (arg 5; try tactic => exact nrm)))
      | refine AL.nil ?_)
    | ((with_reducible refine AW.on ?_); first
      | refine AW.seq ?_
      | refine AW.skip ?_
      | refine AW.exit ?_
      | refine AW.ret ?_
      | refine AW.block ?_
      | (refine AW.draw (id := 5) 11 #[0, 1, 0, 0, 15, 31, 63, 63, 0, 383, 1023] (by kernel_rfl) (by kernel_rfl) ?_; (conv => (arg 8; simp only [List.take_succ_cons, List.take_zero])))
      | (refine AW.draw (id := 12) 11 #[0, 0, 0, 7, 0, 0, 63, 0, 0, 511, 1023] (by kernel_rfl) (by kernel_rfl) ?_; (conv => (arg 8; simp only [List.take_succ_cons, List.take_zero])))
      | (refine AW.draw (id := 21) 9 #[0, 1, 0, 4, 0, 28, 60, 124, 255] (by kernel_rfl) (by kernel_rfl) ?_; (conv => (arg 8; simp only [List.take_succ_cons, List.take_zero])))
      | (refine AW.draw (id := 23) 10 #[0, 1, 0, 7, 15, 31, 63, 63, 127, 511] (by kernel_rfl) (by kernel_rfl) ?_; (conv => (arg 8; simp only [List.take_succ_cons, List.take_zero])))
      | (refine AW.draw (id := 26) 22 #[0, 1, 0, 4, 12, 31, 63, 127, 0, 256, 0, 1024, 0, 4096, 12288, 28672, 64512, 130816, 261888, 524032, 255, 2097151] (by kernel_rfl) (by kernel_rfl) ?_; (conv => (arg 8; simp only [List.take_succ_cons, List.take_zero])))
      | refine AW.region ?_
      | (refine AW.conds rfl (fun hc => ?_) (fun hc => ?_) <;> (try simp only [decide_eq_true_eq, decide_eq_false_iff_not, Bool.not_true, Bool.not_false, Bool.not_eq_true', Bool.not_eq_false', Int.not_lt, Int.not_le, Classical.not_not, ne_eq] at hc) <;> first | (exfalso; first | contradiction | (first | omega | (simp_all; done)); done) | skip))
    | ((with_reducible refine AD.on ?_); first
      | ((first | ((with_reducible refine AD.k_move ?_); first | (refine AD.q rfl (OQ.move (by conv => lhs; whnf)) rfl rfl rfl ?_)) | ((with_reducible refine AD.k_load ?_); first | refine AD.q rfl (OQ.loadN (ty := 24) (n := 3) rfl (by kernel_rfl) (by kernel_rfl) rfl) rfl rfl rfl ?_ | refine AD.q rfl (OQ.loadN (ty := 55) (n := 5) rfl (by kernel_rfl) (by kernel_rfl) rfl) rfl rfl rfl ?_ | (refine AD.q rfl (OQ.load1 (ty := 3) rfl (by kernel_rfl) (by conv => lhs; whnf)) rfl rfl rfl ?_) | (refine AD.q rfl (OQ.load1 (ty := 22) rfl (by kernel_rfl) (by conv => lhs; whnf)) rfl rfl rfl ?_)) | ((with_reducible refine AD.k_call ?_); first | refine AD.q rfl (OQ.max2 rfl rfl) rfl rfl rfl ?_ | refine AD.q rfl (OQ.lenS (xt := 22) (r := (none, 5, true)) rfl (by kernel_rfl)) rfl rfl rfl ?_ | refine AD.q rfl (OQ.min2 rfl rfl) rfl rfl rfl ?_) | ((with_reducible refine AD.k_assign ?_); first | (refine AD.q rfl (OQ.assign (by conv => lhs; whnf)) rfl rfl rfl ?_)) | ((with_reducible refine AD.k_binOp ?_); first | refine AD.q rfl (OQ.neq rfl rfl) rfl rfl rfl ?_ | refine AD.q rfl (OQ.subi rfl rfl (by omega)) rfl rfl rfl ?_ | refine AD.q rfl (OQ.sub rfl rfl) rfl rfl rfl ?_ | refine AD.q rfl (OQ.addi rfl rfl (by omega)) rfl rfl rfl ?_ | refine AD.q rfl (OQ.add rfl rfl) rfl rfl rfl ?_) | ((with_reducible refine AD.k_fieldAddr ?_); first | refine AD.q rfl (OQ.fieldA (ty := 55) (i := 0) (n := 1) (off := 0) (g := false) rfl (by kernel_rfl) (by decide)) rfl rfl rfl ?_ | refine AD.q rfl (OQ.fieldA (ty := 24) (i := 2) (n := 1) (off := 2) (g := false) rfl (by kernel_rfl) (by decide)) rfl rfl rfl ?_) | ((with_reducible refine AD.k_extract ?_); first | refine AD.q rfl (OQ.extract rfl rfl) rfl rfl rfl ?_) | ((with_reducible refine AD.k_indexAddr ?_); first | refine AD.q rfl (OQ.idxAddr (ty := 22) (z := 5) (g := true) rfl rfl (by kernel_rfl) (by omega) (by omega)) rfl rfl rfl ?_)); (conv => (arg 10; try tactic => exact nrm)))
      | ((first | ((with_reducible refine AD.k_alloc ?_); first | refine AD.new (ty := 24) (z := [.string ⟨#[]⟩, .int .i64 0, .slice none 0 0]) rfl rfl rfl (by kernel_rfl) rfl (Nat.lt_of_lt_of_le (Nat.lt_succ_self _) (Nat.le_of_ble_eq_true rfl)) rfl ?_) | ((with_reducible refine AD.k_store ?_); first | (refine AD.init (ty := 24) (p := 0) rfl rfl rfl rfl rfl rfl (by kernel_rfl) (by conv => lhs; whnf) rfl (by kernel_rfl) rfl rfl rfl (by intro r h; cases h) ?_) | (refine AD.init (ty := 24) (p := 1) rfl rfl rfl rfl rfl rfl (by kernel_rfl) (by conv => lhs; whnf) rfl (by kernel_rfl) rfl rfl rfl (by intro r h; cases h) ?_))); (conv => (arg 10; try tactic => exact nrm)); (conv => (arg 9; try dsimp only [Nat.reduceAdd])); (conv => (arg 11; try tactic => exact nrm)))
      | (refine AD.nil ?_; (conv => (arg 4; simp only [List.drop_succ_cons, List.drop_zero, List.drop_nil])); (conv => (arg 5; try tactic => exact nrm)); (conv => (arg 6; try tactic => exact nrm))))
    | ((with_reducible refine FinP.on ?_); (first | refine FinP.ret (.tmp (by conv => lhs; whnf) .nil) ?_ rfl | refine FinP.end (.tmp (by conv => lhs; whnf) .nil) ?_ rfl); (try simp only [pack, List.drop, List.take]); all_goals (rfl)))
/-- An orbit that is wrong. -/
theorem CoL_e (k : Int) (s : St) (g : Bool) (ho : Ors nm l) (hl : l.length ≤ 1000) (hf : (fewB nm.size l.length && briefB nm.data.toList bd l) = true) (h0 : (orbE nm.data.toList bd l).2 ≠ 0) :
    PCalls Try.prog 14 [obW nm bd (va 0 l g), .int .i64 k, stV s] [bl l] (.bool true) := by
  have hnm := ho.nm
  have H1 := fun (m : Mem) (v : Value) (hS : SlB m v l) => brief_c (nm := nm) (bd := bd) hS ho.wf (by omega) (by omega)
  rw [hf] at H1
  have H2 := fun (m : Mem) (v : Value) (hS : SlB m v l) => Err_q (bd := bd) hS ho
  have H3 := fun z => Corrected_ec l z ho k s _ (if_neg h0) h0
  have H4 := fun z => Without_ec l z ho k _ (if_neg h0) h0
  generalize (orbE nm.data.toList bd l).2 = c at *
  clear hf
  refine PCalls.enter (t := [obW nm bd (va 0 l g), .int .i64 k, stV s, undef, undef, undef, undef, undef, undef, undef, undef, undef, undef, undef, undef, undef, undef, undef, undef, undef, undef, undef, undef, undef, undef, undef, undef, undef, undef, undef, undef, undef, undef, undef, undef, undef, undef, undef, undef, undef, undef, undef, undef, undef, undef, undef, undef, undef, undef, undef, undef, undef, undef, undef, undef, undef, undef, undef, undef, undef, undef, undef, undef, undef, undef, undef, undef, undef, undef, undef, undef, undef, undef, undef, undef, undef, undef, undef, undef, undef, undef, undef, undef, undef, undef, undef, undef, undef, undef, undef, undef, undef, undef, undef, undef, undef, undef, undef, undef, undef, undef, undef, undef, undef, undef, undef, undef, undef, undef, undef, undef, undef, undef, undef, undef, undef, undef, undef, undef, undef, undef, undef, undef, undef, undef, undef, undef, undef, undef, undef, undef, undef, undef, undef, undef, undef, undef, undef, undef, undef, undef, undef, undef, undef, undef, undef, undef, undef, undef, undef, undef, undef, undef, undef, undef, undef, undef, undef, undef, undef, undef, undef, undef, undef, undef, undef, undef, undef, undef, undef, undef, undef, undef, undef, undef, undef, undef, undef, undef, undef, undef, undef, undef, undef, undef, undef, undef, undef, undef, undef, undef, undef, undef, undef, undef, undef]) Try.func14 rfl (ro_bl _) rfl fun E => ?_
  repeat' (first
    | with_reducible refine Then.n ?_
    | with_reducible refine Then.r ?_
    | with_reducible refine Then.x ?_
    | with_reducible refine InB.n ?_
    | with_reducible refine InB.r ?_
    | with_reducible refine InB.hit ?_
    | with_reducible refine InB.miss (by decide) ?_
    | ((with_reducible refine AL.on ?_); first
      | (refine AL.gd rfl ?_; first | (refine AL.gskip rfl rfl ?_; (conv => (arg 5; try tactic => exact nrm))) | (refine AL.gs1 rfl rfl (fun hc => ?_) (fun hc => ?_) <;> (try simp only [decide_eq_true_eq, decide_eq_false_iff_not, Bool.not_true, Bool.not_false, Bool.not_eq_true', Bool.not_eq_false', Int.not_lt, Int.not_le, Classical.not_not, ne_eq] at hc) <;> first | (exfalso; first | contradiction | (first | omega | (simp_all; done)); done) | (conv => (arg 5; try tactic => exact nrm))) | (refine AL.gs0 rfl rfl (fun hc => ?_) (fun hc => ?_) <;> (try simp only [decide_eq_true_eq, decide_eq_false_iff_not, Bool.not_true, Bool.not_false, Bool.not_eq_true', Bool.not_eq_false', Int.not_lt, Int.not_le, Classical.not_not, ne_eq] at hc) <;> first | (exfalso; first | contradiction | (first | omega | (simp_all; done)); done) | (conv => (arg 5; try tactic => exact nrm))))
      | ((first | ((with_reducible refine AL.k_move ?_); first | (refine AL.q rfl (OQ.move (by conv => lhs; whnf)) ?_)) | ((with_reducible refine AL.k_load ?_); first | refine AL.q rfl (OQ.loadN (ty := 24) (n := 3) rfl (by kernel_rfl) (by kernel_rfl) rfl) ?_ | (refine AL.q rfl (OQ.load1 (ty := 22) rfl (by kernel_rfl) (by conv => lhs; whnf)) ?_) | (refine AL.q rfl (OQ.load1 (ty := 3) rfl (by kernel_rfl) (by conv => lhs; whnf)) ?_)) | ((with_reducible refine AL.k_call ?_); first | refine AL.q rfl (OQ.lenS (xt := 22) (r := (none, 5, true)) rfl (by kernel_rfl)) ?_ | refine AL.q rfl (OQ.lenS (xt := 29) (r := (none, 2, true)) rfl (by kernel_rfl)) ?_) | ((with_reducible refine AL.k_assign ?_); first | (refine AL.q rfl (OQ.assign (by conv => lhs; whnf)) ?_)) | ((with_reducible refine AL.k_binOp ?_); first | refine AL.q rfl (OQ.eql rfl rfl) ?_ | refine AL.q rfl (OQ.subi rfl rfl (by omega)) ?_ | refine AL.q rfl (OQ.sub rfl rfl) ?_ | refine AL.q rfl (OQ.neq rfl rfl) ?_ | refine AL.q rfl (OQ.gtr rfl rfl) ?_ | refine AL.q rfl (OQ.lss rfl rfl) ?_ | refine AL.q rfl (OQ.addi rfl rfl (by omega)) ?_ | refine AL.q rfl (OQ.add rfl rfl) ?_) | ((with_reducible refine AL.k_pick ?_); first | (refine AL.q rfl (OQ.pickT rfl (by with_reducible rfl) (by conv => lhs; whnf)) ?_) | (refine AL.q rfl (OQ.pickF rfl (by with_reducible rfl) (by conv => lhs; whnf)) ?_)) | ((with_reducible refine AL.k_fieldAddr ?_); first | refine AL.q rfl (OQ.fieldA (ty := 24) (i := 2) (n := 1) (off := 2) (g := false) rfl (by kernel_rfl) (by decide)) ?_ | refine AL.q rfl (OQ.fieldA (ty := 44) (i := 0) (n := 1) (off := 0) (g := false) rfl (by kernel_rfl) (by decide)) ?_ | refine AL.q rfl (OQ.fieldA (ty := 44) (i := 1) (n := 1) (off := 1) (g := false) rfl (by kernel_rfl) (by decide)) ?_) | ((with_reducible refine AL.k_unOp ?_); first | refine AL.q rfl (OQ.not rfl) ?_) | ((with_reducible refine AL.k_extract ?_); first | refine AL.q rfl (OQ.extract rfl rfl) ?_) | ((with_reducible refine AL.k_indexAddr ?_); first | refine AL.q rfl (OQ.idxAddr (ty := 29) (z := 2) (g := true) rfl rfl (by kernel_rfl) (by omega) (by omega)) ?_)); (conv => (arg 5; try tactic => exact nrm)))
      | ((first | ((with_reducible refine AL.k_call ?_); first | refine AL.pcall (g := 16) rfl (by kernel_rfl) rfl (awake_q _) ?_ | refine AL.pcall (g := 17) rfl (by kernel_rfl) rfl (H1 _ _ (SlB.arg (.inl rfl))) ?_ | refine AL.pcall (g := 63) rfl (by kernel_rfl) rfl ((by exact PCalls.via1 H4 rfl rfl (flatS_scal l) rfl rfl rfl rfl)) ?_ | refine AL.pcall (g := 20) rfl (by kernel_rfl) rfl (H2 _ _ (SlB.arg (.inl rfl))) ?_ | refine AL.pcall (g := 64) rfl (by kernel_rfl) rfl ((by exact PCalls.any Same_z rfl rfl _)) ?_) | ((with_reducible refine AL.k_build ?_); first | refine AL.q rfl (OQ.buildS (ty := 24) (zs := [.string ⟨#[]⟩, .int .i64 0, .slice none 0 0]) (pls := [(0, 1), (1, 1), (2, 1)]) (by kernel_rfl) rfl (by kernel_rfl) rfl rfl rfl) ?_)); (conv => (arg 5; try tactic => exact nrm)))
      | ((first | ((with_reducible refine AL.k_call ?_); first | refine AL.acall (g := 19) rfl (by kernel_rfl) rfl ((by exact Copy_q nm bd (l := l) (SlB.arg (by first | exact .inl rfl | exact .inr rfl)) (by omega))) ?_) | ((with_reducible refine AL.k_alloc ?_); first | refine AL.w rfl (OW.alloc (ty := 24) (z := [.string ⟨#[]⟩, .int .i64 0, .slice none 0 0]) (by kernel_rfl) rfl) ?_) | ((with_reducible refine AL.k_store ?_); first | (refine AL.w rfl (OW.store (ty := 24) (n := 3) rfl (by conv => lhs; whnf) rfl rfl (by kernel_rfl) rfl rfl (by decide) rfl (Nat.le_of_ble_eq_true rfl) (by intro r h; cases h)) ?_)) | ((with_reducible refine AL.k_box ?_); first | (refine AL.w rfl (OW.box (by conv => lhs; whnf) (by intro r h; cases h)) ?_))); (conv => (arg 5; try tactic => exact nrm)); (conv => (arg 6; try tactic => exact nrm)))
      | (refine AL.bs rfl (fun hc => ?_) (fun hc => ?_) <;> (fail_if_success (with_reducible exact lit_no hc)) <;> (try simp only [decide_eq_true_eq, decide_eq_false_iff_not, Bool.not_true, Bool.not_false, Bool.not_eq_true', Bool.not_eq_false', Int.not_lt, Int.not_le, Classical.not_not, ne_eq] at hc) <;> first | (exfalso; first | contradiction | (first | omega | (simp_all; done)); done) | (conv => (arg 5; try tactic => exact nrm)))
      | refine AL.nil ?_)
    | ((with_reducible refine AW.on ?_); first
      | refine AW.seq ?_
      | refine AW.skip ?_
      | refine AW.exit ?_
      | refine AW.ret ?_
      | refine AW.block ?_
      | (refine AW.drawF (id := 5) 10 #[0, 1, 0, 0, 15, 31, 63, 63, 0, 383, 1023] (by kernel_rfl) (by kernel_rfl) ?_; (conv => (arg 8; simp only [List.take_succ_cons, List.take_zero])))
      | (refine AW.draw (id := 12) 11 #[0, 0, 0, 7, 0, 0, 63, 0, 0, 511, 1023] (by kernel_rfl) (by kernel_rfl) ?_; (conv => (arg 8; simp only [List.take_succ_cons, List.take_zero])))
      | (refine AW.draw (id := 21) 9 #[0, 1, 0, 4, 0, 28, 60, 124, 255] (by kernel_rfl) (by kernel_rfl) ?_; (conv => (arg 8; simp only [List.take_succ_cons, List.take_zero])))
      | (refine AW.drawF (id := 23) 9 #[0, 1, 0, 7, 15, 31, 63, 63, 127, 511] (by kernel_rfl) (by kernel_rfl) ?_; (conv => (arg 8; simp only [List.take_succ_cons, List.take_zero])))
      | (refine AW.draw (id := 26) 22 #[0, 1, 0, 4, 12, 31, 63, 127, 0, 256, 0, 1024, 0, 4096, 12288, 28672, 64512, 130816, 261888, 524032, 255, 2097151] (by kernel_rfl) (by kernel_rfl) ?_; (conv => (arg 8; simp only [List.take_succ_cons, List.take_zero])))
      | refine AW.region ?_
      | (refine AW.conds rfl (fun hc => ?_) (fun hc => ?_) <;> (try simp only [decide_eq_true_eq, decide_eq_false_iff_not, Bool.not_true, Bool.not_false, Bool.not_eq_true', Bool.not_eq_false', Int.not_lt, Int.not_le, Classical.not_not, ne_eq] at hc) <;> first | (exfalso; first | contradiction | (first | omega | (simp_all; done)); done) | skip))
    | ((with_reducible refine AD.on ?_); first
      | ((first | ((with_reducible refine AD.k_move ?_); first | (refine AD.q rfl (OQ.move (by conv => lhs; whnf)) rfl rfl rfl ?_)) | ((with_reducible refine AD.k_load ?_); first | refine AD.q rfl (OQ.loadN (ty := 24) (n := 3) rfl (by kernel_rfl) (by kernel_rfl) rfl) rfl rfl rfl ?_ | refine AD.q rfl (OQ.loadN (ty := 55) (n := 5) rfl (by kernel_rfl) (by kernel_rfl) rfl) rfl rfl rfl ?_ | (refine AD.q rfl (OQ.load1 (ty := 3) rfl (by kernel_rfl) (by conv => lhs; whnf)) rfl rfl rfl ?_) | (refine AD.q rfl (OQ.load1 (ty := 22) rfl (by kernel_rfl) (by conv => lhs; whnf)) rfl rfl rfl ?_)) | ((with_reducible refine AD.k_call ?_); first | refine AD.q rfl (OQ.max2 rfl rfl) rfl rfl rfl ?_ | refine AD.q rfl (OQ.lenS (xt := 22) (r := (none, 5, true)) rfl (by kernel_rfl)) rfl rfl rfl ?_ | refine AD.q rfl (OQ.min2 rfl rfl) rfl rfl rfl ?_) | ((with_reducible refine AD.k_assign ?_); first | (refine AD.q rfl (OQ.assign (by conv => lhs; whnf)) rfl rfl rfl ?_)) | ((with_reducible refine AD.k_binOp ?_); first | refine AD.q rfl (OQ.neq rfl rfl) rfl rfl rfl ?_ | refine AD.q rfl (OQ.subi rfl rfl (by omega)) rfl rfl rfl ?_ | refine AD.q rfl (OQ.sub rfl rfl) rfl rfl rfl ?_ | refine AD.q rfl (OQ.addi rfl rfl (by omega)) rfl rfl rfl ?_ | refine AD.q rfl (OQ.add rfl rfl) rfl rfl rfl ?_) | ((with_reducible refine AD.k_fieldAddr ?_); first | refine AD.q rfl (OQ.fieldA (ty := 55) (i := 0) (n := 1) (off := 0) (g := false) rfl (by kernel_rfl) (by decide)) rfl rfl rfl ?_ | refine AD.q rfl (OQ.fieldA (ty := 24) (i := 2) (n := 1) (off := 2) (g := false) rfl (by kernel_rfl) (by decide)) rfl rfl rfl ?_) | ((with_reducible refine AD.k_indexAddr ?_); first | refine AD.q rfl (OQ.idxAddr (ty := 22) (z := 5) (g := true) rfl rfl (by kernel_rfl) (by omega) (by omega)) rfl rfl rfl ?_)); (conv => (arg 10; try tactic => exact nrm)))
      | ((first | ((with_reducible refine AD.k_alloc ?_); first | refine AD.new (ty := 24) (z := [.string ⟨#[]⟩, .int .i64 0, .slice none 0 0]) rfl rfl rfl (by kernel_rfl) rfl (Nat.lt_of_lt_of_le (Nat.lt_succ_self _) (Nat.le_of_ble_eq_true rfl)) rfl ?_) | ((with_reducible refine AD.k_store ?_); first | (refine AD.init (ty := 24) (p := 0) rfl rfl rfl rfl rfl rfl (by kernel_rfl) (by conv => lhs; whnf) rfl (by kernel_rfl) rfl rfl rfl (by intro r h; cases h) ?_) | (refine AD.init (ty := 24) (p := 1) rfl rfl rfl rfl rfl rfl (by kernel_rfl) (by conv => lhs; whnf) rfl (by kernel_rfl) rfl rfl rfl (by intro r h; cases h) ?_))); (conv => (arg 10; try tactic => exact nrm)); (conv => (arg 9; try dsimp only [Nat.reduceAdd])); (conv => (arg 11; try tactic => exact nrm)))
      | (refine AD.nil ?_; (conv => (arg 4; simp only [List.drop_succ_cons, List.drop_zero, List.drop_nil])); (conv => (arg 5; try tactic => exact nrm)); (conv => (arg 6; try tactic => exact nrm))))
    | ((with_reducible refine AF.on ?_); first
      | ((first | ((with_reducible refine AF.k_move ?_); first | (refine AF.q 0 (SW.q (OQ.move (by conv => lhs; whnf)) rfl) ?_)) | ((with_reducible refine AF.k_load ?_); first | refine AF.ql rfl (SW.q (OQ.loadN (ty := 24) (n := 3) rfl (by kernel_rfl) (by kernel_rfl) rfl) rfl) ?_ | refine AF.ql rfl (SW.q (OQ.loadN (ty := 55) (n := 5) rfl (by kernel_rfl) (by kernel_rfl) rfl) rfl) ?_) | ((with_reducible refine AF.k_call ?_); first | refine AF.q 2 (SW.pcall (g := 62) rfl (by kernel_rfl) rfl ((by exact PCalls.via1 H3 rfl rfl (flatS_scal l) rfl rfl rfl rfl)) rfl) ?_) | ((with_reducible refine AF.k_assign ?_); first | (refine AF.q 0 (SW.q (OQ.assign (by conv => lhs; whnf)) rfl) ?_)) | ((with_reducible refine AF.k_extract ?_); first | refine AF.q 0 (SW.q (OQ.extract rfl rfl) rfl) ?_)); (conv => (arg 9; try tactic => exact nrmF)); (conv => (arg 11; try simp only [List.nil_append, List.cons_append])))
      | ((first | ((with_reducible refine AF.k_call ?_); first | refine AF.n1 2 (SW.acall (g := 19) rfl (by kernel_rfl) rfl ((by exact Copy_q nm bd (l := l) (SlB.arg (by first | exact .inl rfl | exact .inr rfl)) (by omega))) rfl) rfl ?_) | ((with_reducible refine AF.k_alloc ?_); first | refine AF.n1 0 (SW.w (OW.alloc (ty := 24) (z := [.string ⟨#[]⟩, .int .i64 0, .slice none 0 0]) (by kernel_rfl) rfl) rfl) rfl ?_) | ((with_reducible refine AF.k_store ?_); first | (refine AF.sl rfl (SW.w (OW.store (ty := 24) (n := 3) rfl (by conv => lhs; whnf) rfl rfl (by kernel_rfl) rfl rfl (by decide) rfl (Nat.le_of_ble_eq_true rfl) (by intro r h; cases h)) rfl) rfl ?_))); (conv => (arg 9; try tactic => exact nrmF)); (conv => (arg 11; try simp only [List.nil_append, List.cons_append])); (conv => (arg 10; try tactic => exact nrmF)))
      | (refine AF.nil ?_ (by kernel_rfl); (conv => (arg 4; simp only [List.drop_succ_cons, List.drop_zero, List.drop_nil]))))
    | ((with_reducible refine FinP.on ?_); (first | refine FinP.ret (.tmp (by conv => lhs; whnf) .nil) ?_ rfl | refine FinP.end (.tmp (by conv => lhs; whnf) .nil) ?_ rfl); (try simp only [pack, List.drop, List.take]); all_goals ((first | rfl | (simp; done) | simp_all))))
/-- A state that is not there. -/
theorem CoL_6 (k : Int) (s : St) (ho : Ors nm l) (hR : Right bd l) (hf : (fewB nm.size l.length && briefB nm.data.toList bd l) = true) (he : (orbE nm.data.toList bd l).2 = 0) (hk : rngB k 0 (l.length - 1) = false) :
    PCalls Try.prog 14 [obI nm bd 0 l, .int .i64 k, stV s] [some ⟨flatS l, false, 0⟩] (.bool true) := by
  have hnm := ho.nm
  have h40 := hR.n40
  have h2 := hR.n2
  have H1 := fun (m : Mem) (v : Value) (hS : SlB m v l) => brief_c (nm := nm) (bd := bd) hS ho.wf (by omega) (by omega)
  rw [hf] at H1
  have H2 := fun (m : Mem) (v : Value) (hS : SlB m v l) => Err_q (bd := bd) hS ho
  rw [he] at H2
  have H3 := fun z => Corrected_ec l z ho k s 6 (by rw [if_pos he, hk]; rfl) (by decide)
  have H4 := fun z => Without_ec l z ho k 6 (by rw [if_pos he, hk]; rfl) (by decide)
  have H5 := Within_c k 0 (l.length - 1)
  rw [hk] at H5
  clear hf he hk hR
  refine PCalls.enter (t := [obI nm bd 0 l, .int .i64 k, stV s, undef, undef, undef, undef, undef, undef, undef, undef, undef, undef, undef, undef, undef, undef, undef, undef, undef, undef, undef, undef, undef, undef, undef, undef, undef, undef, undef, undef, undef, undef, undef, undef, undef, undef, undef, undef, undef, undef, undef, undef, undef, undef, undef, undef, undef, undef, undef, undef, undef, undef, undef, undef, undef, undef, undef, undef, undef, undef, undef, undef, undef, undef, undef, undef, undef, undef, undef, undef, undef, undef, undef, undef, undef, undef, undef, undef, undef, undef, undef, undef, undef, undef, undef, undef, undef, undef, undef, undef, undef, undef, undef, undef, undef, undef, undef, undef, undef, undef, undef, undef, undef, undef, undef, undef, undef, undef, undef, undef, undef, undef, undef, undef, undef, undef, undef, undef, undef, undef, undef, undef, undef, undef, undef, undef, undef, undef, undef, undef, undef, undef, undef, undef, undef, undef, undef, undef, undef, undef, undef, undef, undef, undef, undef, undef, undef, undef, undef, undef, undef, undef, undef, undef, undef, undef, undef, undef, undef, undef, undef, undef, undef, undef, undef, undef, undef, undef, undef, undef, undef, undef, undef, undef, undef, undef, undef, undef, undef, undef, undef, undef, undef, undef, undef, undef, undef, undef, undef, undef, undef, undef, undef, undef, undef]) Try.func14 rfl (ro1 _ rfl) rfl fun E => ?_
  repeat' (first
    | with_reducible refine Then.n ?_
    | with_reducible refine Then.r ?_
    | with_reducible refine Then.x ?_
    | with_reducible refine InB.n ?_
    | with_reducible refine InB.r ?_
    | with_reducible refine InB.hit ?_
    | with_reducible refine InB.miss (by decide) ?_
    | ((with_reducible refine AL.on ?_); first
      | (refine AL.gd rfl ?_; first | (refine AL.gskip rfl rfl ?_; (conv => (arg 5; try tactic => exact nrm))) | (refine AL.gs1 rfl rfl (fun hc => ?_) (fun hc => ?_) <;> (try simp only [decide_eq_true_eq, decide_eq_false_iff_not, Bool.not_true, Bool.not_false, Bool.not_eq_true', Bool.not_eq_false', Int.not_lt, Int.not_le, Classical.not_not, ne_eq] at hc) <;> first | (exfalso; first | contradiction | (first | omega | (simp_all; done)); done) | (conv => (arg 5; try tactic => exact nrm))) | (refine AL.gs0 rfl rfl (fun hc => ?_) (fun hc => ?_) <;> (try simp only [decide_eq_true_eq, decide_eq_false_iff_not, Bool.not_true, Bool.not_false, Bool.not_eq_true', Bool.not_eq_false', Int.not_lt, Int.not_le, Classical.not_not, ne_eq] at hc) <;> first | (exfalso; first | contradiction | (first | omega | (simp_all; done)); done) | (conv => (arg 5; try tactic => exact nrm))))
      | ((first | ((with_reducible refine AL.k_move ?_); first | (refine AL.q rfl (OQ.move (by conv => lhs; whnf)) ?_)) | ((with_reducible refine AL.k_load ?_); first | refine AL.q rfl (OQ.loadN (ty := 24) (n := 3) rfl (by kernel_rfl) (by kernel_rfl) rfl) ?_ | (refine AL.q rfl (OQ.load1 (ty := 22) rfl (by kernel_rfl) (by conv => lhs; whnf)) ?_) | (refine AL.q rfl (OQ.load1 (ty := 3) rfl (by kernel_rfl) (by conv => lhs; whnf)) ?_)) | ((with_reducible refine AL.k_call ?_); first | refine AL.q rfl (OQ.lenS (xt := 22) (r := (none, 5, true)) rfl (by kernel_rfl)) ?_ | refine AL.q rfl (OQ.lenS (xt := 29) (r := (none, 2, true)) rfl (by kernel_rfl)) ?_) | ((with_reducible refine AL.k_assign ?_); first | (refine AL.q rfl (OQ.assign (by conv => lhs; whnf)) ?_)) | ((with_reducible refine AL.k_binOp ?_); first | refine AL.q rfl (OQ.eql rfl rfl) ?_ | refine AL.q rfl (OQ.subi rfl rfl (by omega)) ?_ | refine AL.q rfl (OQ.sub rfl rfl) ?_ | refine AL.q rfl (OQ.neq rfl rfl) ?_ | refine AL.q rfl (OQ.gtr rfl rfl) ?_ | refine AL.q rfl (OQ.lss rfl rfl) ?_ | refine AL.q rfl (OQ.addi rfl rfl (by omega)) ?_ | refine AL.q rfl (OQ.add rfl rfl) ?_) | ((with_reducible refine AL.k_pick ?_); first | (refine AL.q rfl (OQ.pickT rfl (by with_reducible rfl) (by conv => lhs; whnf)) ?_) | (refine AL.q rfl (OQ.pickF rfl (by with_reducible rfl) (by conv => lhs; whnf)) ?_)) | ((with_reducible refine AL.k_fieldAddr ?_); first | refine AL.q rfl (OQ.fieldA (ty := 24) (i := 2) (n := 1) (off := 2) (g := false) rfl (by kernel_rfl) (by decide)) ?_ | refine AL.q rfl (OQ.fieldA (ty := 44) (i := 0) (n := 1) (off := 0) (g := false) rfl (by kernel_rfl) (by decide)) ?_ | refine AL.q rfl (OQ.fieldA (ty := 44) (i := 1) (n := 1) (off := 1) (g := false) rfl (by kernel_rfl) (by decide)) ?_) | ((with_reducible refine AL.k_unOp ?_); first | refine AL.q rfl (OQ.not rfl) ?_) | ((with_reducible refine AL.k_extract ?_); first | refine AL.q rfl (OQ.extract rfl rfl) ?_) | ((with_reducible refine AL.k_indexAddr ?_); first | refine AL.q rfl (OQ.idxAddr (ty := 29) (z := 2) (g := true) rfl rfl (by kernel_rfl) (by omega) (by omega)) ?_)); (conv => (arg 5; try tactic => exact nrm)))
      | ((first | ((with_reducible refine AL.k_call ?_); first | refine AL.pcall (g := 16) rfl (by kernel_rfl) rfl (awake_q _) ?_ | refine AL.pcall (g := 17) rfl (by kernel_rfl) rfl (H1 _ _ (.blk 0 _ rfl rfl rfl)) ?_ | refine AL.pcall (g := 63) rfl (by kernel_rfl) rfl ((by exact PCalls.via1 H4 rfl rfl (flatS_scal l) rfl rfl rfl rfl)) ?_ | refine AL.pcall (g := 20) rfl (by kernel_rfl) rfl (H2 _ _ (.blk 0 _ rfl rfl rfl)) ?_ | refine AL.pcall (g := 22) rfl (by kernel_rfl) rfl (H5 _) ?_ | refine AL.pcall (g := 64) rfl (by kernel_rfl) rfl ((by exact PCalls.any Same_z rfl rfl _)) ?_) | ((with_reducible refine AL.k_build ?_); first | refine AL.q rfl (OQ.buildS (ty := 24) (zs := [.string ⟨#[]⟩, .int .i64 0, .slice none 0 0]) (pls := [(0, 1), (1, 1), (2, 1)]) (by kernel_rfl) rfl (by kernel_rfl) rfl rfl rfl) ?_)); (conv => (arg 5; try tactic => exact nrm)))
      | ((first | ((with_reducible refine AL.k_call ?_); first | refine AL.acall (g := 19) rfl (by kernel_rfl) rfl ((by exact Copy_q nm bd (l := l) (.blk 0 _ rfl rfl rfl) (by omega))) ?_) | ((with_reducible refine AL.k_alloc ?_); first | refine AL.w rfl (OW.alloc (ty := 24) (z := [.string ⟨#[]⟩, .int .i64 0, .slice none 0 0]) (by kernel_rfl) rfl) ?_) | ((with_reducible refine AL.k_store ?_); first | (refine AL.w rfl (OW.store (ty := 24) (n := 3) rfl (by conv => lhs; whnf) rfl rfl (by kernel_rfl) rfl rfl (by decide) rfl (Nat.le_of_ble_eq_true rfl) (by intro r h; cases h)) ?_)) | ((with_reducible refine AL.k_box ?_); first | (refine AL.w rfl (OW.box (by conv => lhs; whnf) (by intro r h; cases h)) ?_))); (conv => (arg 5; try tactic => exact nrm)); (conv => (arg 6; try tactic => exact nrm)))
      | (refine AL.bs rfl (fun hc => ?_) (fun hc => ?_) <;> (fail_if_success (with_reducible exact lit_no hc)) <;> (try simp only [decide_eq_true_eq, decide_eq_false_iff_not, Bool.not_true, Bool.not_false, Bool.not_eq_true', Bool.not_eq_false', Int.not_lt, Int.not_le, Classical.not_not, ne_eq] at hc) <;> first | (exfalso; first | contradiction | (first | omega | (simp_all; done)); done) | (conv => (arg 5; try tactic => exact nrm)))
      | refine AL.nil ?_)
    | ((with_reducible refine AW.on ?_); first
      | refine AW.seq ?_
      | refine AW.skip ?_
      | refine AW.exit ?_
      | refine AW.ret ?_
      | refine AW.block ?_
      | (refine AW.drawF (id := 5) 10 #[0, 1, 0, 0, 15, 31, 63, 63, 0, 383, 1023] (by kernel_rfl) (by kernel_rfl) ?_; (conv => (arg 8; simp only [List.take_succ_cons, List.take_zero])))
      | (refine AW.draw (id := 12) 11 #[0, 0, 0, 7, 0, 0, 63, 0, 0, 511, 1023] (by kernel_rfl) (by kernel_rfl) ?_; (conv => (arg 8; simp only [List.take_succ_cons, List.take_zero])))
      | (refine AW.draw (id := 21) 9 #[0, 1, 0, 4, 0, 28, 60, 124, 255] (by kernel_rfl) (by kernel_rfl) ?_; (conv => (arg 8; simp only [List.take_succ_cons, List.take_zero])))
      | (refine AW.drawF (id := 23) 9 #[0, 1, 0, 7, 15, 31, 63, 63, 127, 511] (by kernel_rfl) (by kernel_rfl) ?_; (conv => (arg 8; simp only [List.take_succ_cons, List.take_zero])))
      | (refine AW.draw (id := 26) 22 #[0, 1, 0, 4, 12, 31, 63, 127, 0, 256, 0, 1024, 0, 4096, 12288, 28672, 64512, 130816, 261888, 524032, 255, 2097151] (by kernel_rfl) (by kernel_rfl) ?_; (conv => (arg 8; simp only [List.take_succ_cons, List.take_zero])))
      | refine AW.region ?_
      | (refine AW.conds rfl (fun hc => ?_) (fun hc => ?_) <;> (try simp only [decide_eq_true_eq, decide_eq_false_iff_not, Bool.not_true, Bool.not_false, Bool.not_eq_true', Bool.not_eq_false', Int.not_lt, Int.not_le, Classical.not_not, ne_eq] at hc) <;> first | (exfalso; first | contradiction | (first | omega | (simp_all; done)); done) | skip))
    | ((with_reducible refine AD.on ?_); first
      | ((first | ((with_reducible refine AD.k_move ?_); first | (refine AD.q rfl (OQ.move (by conv => lhs; whnf)) rfl rfl rfl ?_)) | ((with_reducible refine AD.k_load ?_); first | refine AD.q rfl (OQ.loadN (ty := 24) (n := 3) rfl (by kernel_rfl) (by kernel_rfl) rfl) rfl rfl rfl ?_ | refine AD.q rfl (OQ.loadN (ty := 55) (n := 5) rfl (by kernel_rfl) (by kernel_rfl) rfl) rfl rfl rfl ?_ | (refine AD.q rfl (OQ.load1 (ty := 3) rfl (by kernel_rfl) (by conv => lhs; whnf)) rfl rfl rfl ?_) | (refine AD.q rfl (OQ.load1 (ty := 22) rfl (by kernel_rfl) (by conv => lhs; whnf)) rfl rfl rfl ?_)) | ((with_reducible refine AD.k_call ?_); first | refine AD.q rfl (OQ.max2 rfl rfl) rfl rfl rfl ?_ | refine AD.q rfl (OQ.lenS (xt := 22) (r := (none, 5, true)) rfl (by kernel_rfl)) rfl rfl rfl ?_ | refine AD.q rfl (OQ.min2 rfl rfl) rfl rfl rfl ?_) | ((with_reducible refine AD.k_assign ?_); first | (refine AD.q rfl (OQ.assign (by conv => lhs; whnf)) rfl rfl rfl ?_)) | ((with_reducible refine AD.k_binOp ?_); first | refine AD.q rfl (OQ.neq rfl rfl) rfl rfl rfl ?_ | refine AD.q rfl (OQ.subi rfl rfl (by omega)) rfl rfl rfl ?_ | refine AD.q rfl (OQ.sub rfl rfl) rfl rfl rfl ?_ | refine AD.q rfl (OQ.addi rfl rfl (by omega)) rfl rfl rfl ?_ | refine AD.q rfl (OQ.add rfl rfl) rfl rfl rfl ?_) | ((with_reducible refine AD.k_fieldAddr ?_); first | refine AD.q rfl (OQ.fieldA (ty := 55) (i := 0) (n := 1) (off := 0) (g := false) rfl (by kernel_rfl) (by decide)) rfl rfl rfl ?_ | refine AD.q rfl (OQ.fieldA (ty := 24) (i := 2) (n := 1) (off := 2) (g := false) rfl (by kernel_rfl) (by decide)) rfl rfl rfl ?_) | ((with_reducible refine AD.k_indexAddr ?_); first | refine AD.q rfl (OQ.idxAddr (ty := 22) (z := 5) (g := true) rfl rfl (by kernel_rfl) (by omega) (by omega)) rfl rfl rfl ?_)); (conv => (arg 10; try tactic => exact nrm)))
      | ((first | ((with_reducible refine AD.k_alloc ?_); first | refine AD.new (ty := 24) (z := [.string ⟨#[]⟩, .int .i64 0, .slice none 0 0]) rfl rfl rfl (by kernel_rfl) rfl (Nat.lt_of_lt_of_le (Nat.lt_succ_self _) (Nat.le_of_ble_eq_true rfl)) rfl ?_) | ((with_reducible refine AD.k_store ?_); first | (refine AD.init (ty := 24) (p := 0) rfl rfl rfl rfl rfl rfl (by kernel_rfl) (by conv => lhs; whnf) rfl (by kernel_rfl) rfl rfl rfl (by intro r h; cases h) ?_) | (refine AD.init (ty := 24) (p := 1) rfl rfl rfl rfl rfl rfl (by kernel_rfl) (by conv => lhs; whnf) rfl (by kernel_rfl) rfl rfl rfl (by intro r h; cases h) ?_))); (conv => (arg 10; try tactic => exact nrm)); (conv => (arg 9; try dsimp only [Nat.reduceAdd])); (conv => (arg 11; try tactic => exact nrm)))
      | (refine AD.nil ?_; (conv => (arg 4; simp only [List.drop_succ_cons, List.drop_zero, List.drop_nil])); (conv => (arg 5; try tactic => exact nrm)); (conv => (arg 6; try tactic => exact nrm))))
    | ((with_reducible refine AF.on ?_); first
      | ((first | ((with_reducible refine AF.k_move ?_); first | (refine AF.q 0 (SW.q (OQ.move (by conv => lhs; whnf)) rfl) ?_)) | ((with_reducible refine AF.k_load ?_); first | refine AF.ql rfl (SW.q (OQ.loadN (ty := 24) (n := 3) rfl (by kernel_rfl) (by kernel_rfl) rfl) rfl) ?_ | refine AF.ql rfl (SW.q (OQ.loadN (ty := 55) (n := 5) rfl (by kernel_rfl) (by kernel_rfl) rfl) rfl) ?_) | ((with_reducible refine AF.k_call ?_); first | refine AF.q 2 (SW.pcall (g := 62) rfl (by kernel_rfl) rfl ((by exact PCalls.via1 H3 rfl rfl (flatS_scal l) rfl rfl rfl rfl)) rfl) ?_) | ((with_reducible refine AF.k_assign ?_); first | (refine AF.q 0 (SW.q (OQ.assign (by conv => lhs; whnf)) rfl) ?_)) | ((with_reducible refine AF.k_extract ?_); first | refine AF.q 0 (SW.q (OQ.extract rfl rfl) rfl) ?_)); (conv => (arg 9; try tactic => exact nrmF)); (conv => (arg 11; try simp only [List.nil_append, List.cons_append])))
      | ((first | ((with_reducible refine AF.k_call ?_); first | refine AF.n1 2 (SW.acall (g := 19) rfl (by kernel_rfl) rfl ((by exact Copy_q nm bd (l := l) (.blk 0 _ rfl rfl rfl) (by omega))) rfl) rfl ?_) | ((with_reducible refine AF.k_alloc ?_); first | refine AF.n1 0 (SW.w (OW.alloc (ty := 24) (z := [.string ⟨#[]⟩, .int .i64 0, .slice none 0 0]) (by kernel_rfl) rfl) rfl) rfl ?_) | ((with_reducible refine AF.k_store ?_); first | (refine AF.sl rfl (SW.w (OW.store (ty := 24) (n := 3) rfl (by conv => lhs; whnf) rfl rfl (by kernel_rfl) rfl rfl (by decide) rfl (Nat.le_of_ble_eq_true rfl) (by intro r h; cases h)) rfl) rfl ?_))); (conv => (arg 9; try tactic => exact nrmF)); (conv => (arg 11; try simp only [List.nil_append, List.cons_append])); (conv => (arg 10; try tactic => exact nrmF)))
      | (refine AF.nil ?_ (by kernel_rfl); (conv => (arg 4; simp only [List.drop_succ_cons, List.drop_zero, List.drop_nil]))))
    | ((with_reducible refine FinP.on ?_); (first | refine FinP.ret (.tmp (by conv => lhs; whnf) .nil) ?_ rfl | refine FinP.end (.tmp (by conv => lhs; whnf) .nil) ?_ rfl); (try simp only [pack, List.drop, List.take]); all_goals ((first | rfl | (simp; done) | simp_all))))
/-- A correction that is wrong. -/
theorem CoL_a (k : Nat) (s : St) (hk : k < l.length) (ho : Ors nm l) (h40 : l.length ≤ 40) (hoa : Ors nm a) (hob : Ors nm b) (la : a.length ≤ 40) (hb0 : l.length = b.length + 1) (hf : (fewB nm.size l.length && briefB nm.data.toList bd l) = true) (he : (orbE nm.data.toList bd l).2 = 0)
    (hRC : ∀ z, ACalls Try.prog 65 [obI nm bd 0 l, .int .i64 k, stV s] [some ⟨flatS l, false, z⟩] (obI nm bd 1 a) [some ⟨flatS l, false, z⟩, some ⟨flatS a, true, 5⟩])
    (hRW : ∀ z, z = 0 ∨ z = 5 → ACalls Try.prog 66 [obI nm bd 0 l, .int .i64 k] [some ⟨flatS l, false, z⟩] (obI nm bd 1 b) [some ⟨flatS l, false, z⟩, some ⟨flatS b, true, 5⟩])
    (hW : ((orbE nm.data.toList bd b).2 = 0 ∧ ∀ z, z = 0 ∨ z = 5 → ACalls Try.prog 63 [obI nm bd 0 l, .int .i64 k] [some ⟨flatS l, false, z⟩] (.tuple #[obI nm bd 1 b, .int .i64 0]) [some ⟨flatS l, false, z⟩, some ⟨flatS b, true, 5⟩]) ∨
      ((orbE nm.data.toList bd b).2 ≠ 0 ∧ ∀ z, z = 0 ∨ z = 5 → PCalls Try.prog 63 [obI nm bd 0 l, .int .i64 k] [some ⟨flatS l, false, z⟩] (.tuple #[ob0, .int .i64 (orbE nm.data.toList bd b).2])))
    (ea : Int) (hea : (orbE nm.data.toList bd a).2 = ea) (hea0 : ea ≠ 0) (hC : ∀ z, PCalls Try.prog 62 [obI nm bd 0 l, .int .i64 k, stV s] [some ⟨flatS l, false, z⟩] (.tuple #[ob0, .int .i64 ea])) :
    PCalls Try.prog 14 [obI nm bd 0 l, .int .i64 k, stV s] [some ⟨flatS l, false, 0⟩] (.bool true) := by
  have hnm := ho.nm
  have H1 := fun (m : Mem) (v : Value) (hS : SlB m v l) => brief_c (nm := nm) (bd := bd) hS ho.wf (by omega) (by omega)
  rw [hf] at H1
  have H2 := fun (m : Mem) (v : Value) (hS : SlB m v l) => Err_q (bd := bd) hS ho
  rw [he] at H2
  have H3 := fun (m : Mem) (v : Value) (hS : SlB m v a) => Err_q (bd := bd) hS hoa
  have H4 := fun (m : Mem) (v : Value) (hS : SlB m v b) => Err_q (bd := bd) hS hob
  have H5 := Within_c k 0 (l.length - 1)
  rw [show rngB k 0 (l.length - 1) = true from rngB_true.2 (by omega)] at H5
  have SA := fun z1 z2 => Same_c nm bd a z1 z2 (by omega)
  have SB := fun z1 z2 => Same_c nm bd b z1 z2 (by omega)
  have R1 := fun (m : Mem) (i : Nat) (blk : Blk) (hb : m.at i = some blk) (hc : blk.cells = flatS l) => via_e hb hc (flatS_scal l) (flatS_scal a) (hRC blk.esz) (args := [obI nm bd i l, .int .i64 k, stV s]) (v := obI nm bd m.length a) rfl rfl (by simp [rn3, rn2, rn1, τn]) rfl
  have R2 := fun (m : Mem) (i : Nat) (blk : Blk) (hb : m.at i = some blk) (hc : blk.cells = flatS l) (hz : blk.esz = 0 ∨ blk.esz = 5) => via_e hb hc (flatS_scal l) (flatS_scal b) (hRW blk.esz hz) (args := [obI nm bd i l, .int .i64 k]) (v := obI nm bd m.length b) rfl rfl (by simp [rn3, rn2, rn1, τn]) rfl
  clear hRC hRW he hf
  rw [hea] at H3
  clear hea
  generalize (orbE nm.data.toList bd b).2 = eb at *
  have HW : (eb = 0 ∧ ∀ (m : Mem) (i : Nat) (blk : Blk), m.at i = some blk → blk.cells = flatS l → blk.esz = 0 ∨ blk.esz = 5 → ACalls Try.prog 63 [obI nm bd i l, .int .i64 k] m (.tuple #[obI nm bd m.length b, .int .i64 0]) (m ++ [some ⟨flatS b, true, 5⟩])) ∨
      (eb ≠ 0 ∧ ∀ (m : Mem) (i : Nat) (blk : Blk), m.at i = some blk → blk.cells = flatS l → blk.esz = 0 ∨ blk.esz = 5 → PCalls Try.prog 63 [obI nm bd i l, .int .i64 k] m (.tuple #[ob0, .int .i64 eb])) := by
    rcases hW with ⟨h0, h⟩ | ⟨h0, h⟩
    · exact .inl ⟨h0, fun m i blk hb hc hz => via_e hb hc (flatS_scal l) (flatS_scal b) (h blk.esz hz) rfl rfl (by simp [rn3, rn2, rn1, τn]) rfl⟩
    · exact .inr ⟨h0, fun m i blk hb hc hz => PCalls.via (fun _ => i) (h blk.esz hz) (lies1 hb hc) rfl rfl rfl rfl⟩
  clear hW
  have HC : ∀ (m : Mem) (i : Nat) (blk : Blk), m.at i = some blk → blk.cells = flatS l → PCalls Try.prog 62 [obI nm bd i l, .int .i64 k, stV s] m (.tuple #[ob0, .int .i64 ea]) :=
    fun m i blk hb hc => PCalls.via1 hC hb hc (flatS_scal l) rfl rfl rfl rfl
  clear hC
  rcases HW with ⟨rfl, HW⟩ | ⟨heb, HW⟩
  all_goals
    refine PCalls.enter (t := [obI nm bd 0 l, .int .i64 k, stV s, undef, undef, undef, undef, undef, undef, undef, undef, undef, undef, undef, undef, undef, undef, undef, undef, undef, undef, undef, undef, undef, undef, undef, undef, undef, undef, undef, undef, undef, undef, undef, undef, undef, undef, undef, undef, undef, undef, undef, undef, undef, undef, undef, undef, undef, undef, undef, undef, undef, undef, undef, undef, undef, undef, undef, undef, undef, undef, undef, undef, undef, undef, undef, undef, undef, undef, undef, undef, undef, undef, undef, undef, undef, undef, undef, undef, undef, undef, undef, undef, undef, undef, undef, undef, undef, undef, undef, undef, undef, undef, undef, undef, undef, undef, undef, undef, undef, undef, undef, undef, undef, undef, undef, undef, undef, undef, undef, undef, undef, undef, undef, undef, undef, undef, undef, undef, undef, undef, undef, undef, undef, undef, undef, undef, undef, undef, undef, undef, undef, undef, undef, undef, undef, undef, undef, undef, undef, undef, undef, undef, undef, undef, undef, undef, undef, undef, undef, undef, undef, undef, undef, undef, undef, undef, undef, undef, undef, undef, undef, undef, undef, undef, undef, undef, undef, undef, undef, undef, undef, undef, undef, undef, undef, undef, undef, undef, undef, undef, undef, undef, undef, undef, undef, undef, undef, undef, undef, undef, undef, undef, undef, undef, undef]) Try.func14 rfl (ro1 _ rfl) rfl fun E => ?_
    repeat' (first
      | with_reducible refine Then.n ?_
      | with_reducible refine Then.r ?_
      | with_reducible refine Then.x ?_
      | with_reducible refine InB.n ?_
      | with_reducible refine InB.r ?_
      | with_reducible refine InB.hit ?_
      | with_reducible refine InB.miss (by decide) ?_
      | ((with_reducible refine AL.on ?_); first
        | (refine AL.gd rfl ?_; first | (refine AL.gskip rfl rfl ?_; (conv => (arg 5; try tactic => exact nrm))) | (refine AL.gs1 rfl rfl (fun hc => ?_) (fun hc => ?_) <;> (try simp only [decide_eq_true_eq, decide_eq_false_iff_not, Bool.not_true, Bool.not_false, Bool.not_eq_true', Bool.not_eq_false', Int.not_lt, Int.not_le, Classical.not_not, ne_eq] at hc) <;> first | (exfalso; first | contradiction | (first | omega | (simp at *; done) | (simp_all; done)); done) | (conv => (arg 5; try tactic => exact nrm))) | (refine AL.gs0 rfl rfl (fun hc => ?_) (fun hc => ?_) <;> (try simp only [decide_eq_true_eq, decide_eq_false_iff_not, Bool.not_true, Bool.not_false, Bool.not_eq_true', Bool.not_eq_false', Int.not_lt, Int.not_le, Classical.not_not, ne_eq] at hc) <;> first | (exfalso; first | contradiction | (first | omega | (simp at *; done) | (simp_all; done)); done) | (conv => (arg 5; try tactic => exact nrm))))
        | ((first | ((with_reducible refine AL.k_move ?_); first | (refine AL.q rfl (OQ.move (by conv => lhs; whnf)) ?_)) | ((with_reducible refine AL.k_load ?_); first | refine AL.q rfl (OQ.loadN (ty := 24) (n := 3) rfl (by kernel_rfl) (by kernel_rfl) rfl) ?_ | (refine AL.q rfl (OQ.load1 (ty := 22) rfl (by kernel_rfl) (by conv => lhs; whnf)) ?_) | (refine AL.q rfl (OQ.load1 (ty := 3) rfl (by kernel_rfl) (by conv => lhs; whnf)) ?_)) | ((with_reducible refine AL.k_call ?_); first | refine AL.q rfl (OQ.lenS (xt := 22) (r := (none, 5, true)) rfl (by kernel_rfl)) ?_ | refine AL.q rfl (OQ.lenS (xt := 29) (r := (none, 2, true)) rfl (by kernel_rfl)) ?_) | ((with_reducible refine AL.k_assign ?_); first | (refine AL.q rfl (OQ.assign (by conv => lhs; whnf)) ?_)) | ((with_reducible refine AL.k_binOp ?_); first | refine AL.q rfl (OQ.eql rfl rfl) ?_ | refine AL.q rfl (OQ.subi rfl rfl (by omega)) ?_ | refine AL.q rfl (OQ.sub rfl rfl) ?_ | refine AL.q rfl (OQ.neq rfl rfl) ?_ | refine AL.q rfl (OQ.gtr rfl rfl) ?_ | refine AL.q rfl (OQ.lss rfl rfl) ?_ | refine AL.q rfl (OQ.addi rfl rfl (by omega)) ?_ | refine AL.q rfl (OQ.add rfl rfl) ?_) | ((with_reducible refine AL.k_pick ?_); first | (refine AL.q rfl (OQ.pickT rfl (by with_reducible rfl) (by conv => lhs; whnf)) ?_) | (refine AL.q rfl (OQ.pickF rfl (by with_reducible rfl) (by conv => lhs; whnf)) ?_)) | ((with_reducible refine AL.k_fieldAddr ?_); first | refine AL.q rfl (OQ.fieldA (ty := 24) (i := 2) (n := 1) (off := 2) (g := false) rfl (by kernel_rfl) (by decide)) ?_ | refine AL.q rfl (OQ.fieldA (ty := 44) (i := 0) (n := 1) (off := 0) (g := false) rfl (by kernel_rfl) (by decide)) ?_ | refine AL.q rfl (OQ.fieldA (ty := 44) (i := 1) (n := 1) (off := 1) (g := false) rfl (by kernel_rfl) (by decide)) ?_) | ((with_reducible refine AL.k_unOp ?_); first | refine AL.q rfl (OQ.not rfl) ?_) | ((with_reducible refine AL.k_extract ?_); first | refine AL.q rfl (OQ.extract rfl rfl) ?_) | ((with_reducible refine AL.k_indexAddr ?_); first | refine AL.q rfl (OQ.idxAddr (ty := 29) (z := 2) (g := true) rfl rfl (by kernel_rfl) (by omega) (by omega)) ?_)); (conv => (arg 5; try tactic => exact nrm)))
        | ((first | ((with_reducible refine AL.k_call ?_); first | refine AL.pcall (g := 16) rfl (by kernel_rfl) rfl (awake_q _) ?_ | refine AL.pcall (g := 17) rfl (by kernel_rfl) rfl (H1 _ _ (.blk 0 _ rfl rfl rfl)) ?_ | refine AL.pcall (g := 20) rfl (by kernel_rfl) rfl ((by first | exact H2 _ _ (.blk 0 _ rfl rfl rfl) | exact H3 _ _ (.blk _ _ rfl rfl rfl) | exact H4 _ _ (.blk _ _ rfl rfl rfl))) ?_ | refine AL.pcall (g := 22) rfl (by kernel_rfl) rfl (H5 _) ?_ | refine AL.pcall (g := 64) rfl (by kernel_rfl) rfl ((by first | exact PCalls.any Same_z rfl rfl _ | exact two_v SA rfl rfl rfl rfl rfl rfl rfl rfl | exact two_v SB rfl rfl rfl rfl rfl rfl rfl rfl)) ?_) | ((with_reducible refine AL.k_build ?_); first | refine AL.q rfl (OQ.buildS (ty := 24) (zs := [.string ⟨#[]⟩, .int .i64 0, .slice none 0 0]) (pls := [(0, 1), (1, 1), (2, 1)]) (by kernel_rfl) rfl (by kernel_rfl) rfl rfl rfl) ?_)); (conv => (arg 5; try tactic => exact nrm)))
        | ((first | ((with_reducible refine AL.k_call ?_); first | refine AL.acall (g := 19) rfl (by kernel_rfl) rfl ((by first | exact Copy_q nm bd (l := l) (.blk 0 _ rfl rfl rfl) (by omega) | exact Copy_q nm bd (l := a) (.blk _ _ rfl rfl rfl) (by omega))) ?_ | refine AL.acall (g := 63) rfl (by kernel_rfl) rfl ((by exact HW _ _ _ rfl rfl (by first | exact .inl rfl | exact .inr rfl))) ?_ | refine AL.pcall (g := 63) rfl (by kernel_rfl) rfl ((by exact HW _ _ _ rfl rfl (by first | exact .inl rfl | exact .inr rfl))) ?_) | ((with_reducible refine AL.k_alloc ?_); first | refine AL.w rfl (OW.alloc (ty := 24) (z := [.string ⟨#[]⟩, .int .i64 0, .slice none 0 0]) (by kernel_rfl) rfl) ?_) | ((with_reducible refine AL.k_store ?_); first | (refine AL.w rfl (OW.store (ty := 24) (n := 3) rfl (by conv => lhs; whnf) rfl rfl (by kernel_rfl) rfl rfl (by decide) rfl (Nat.le_of_ble_eq_true rfl) (by intro r h; cases h)) ?_)) | ((with_reducible refine AL.k_box ?_); first | (refine AL.w rfl (OW.box (by conv => lhs; whnf) (by intro r h; cases h)) ?_))); (conv => (arg 5; try tactic => exact nrm)); (conv => (arg 6; try tactic => exact nrm)))
        | (refine AL.bs rfl (fun hc => ?_) (fun hc => ?_) <;> (fail_if_success (with_reducible exact lit_no hc)) <;> (try simp only [decide_eq_true_eq, decide_eq_false_iff_not, Bool.not_true, Bool.not_false, Bool.not_eq_true', Bool.not_eq_false', Int.not_lt, Int.not_le, Classical.not_not, ne_eq] at hc) <;> first | (exfalso; first | contradiction | (first | omega | (simp at *; done) | (simp_all; done)); done) | (conv => (arg 5; try tactic => exact nrm)))
        | refine AL.nil ?_)
      | ((with_reducible refine AW.on ?_); first
        | refine AW.seq ?_
        | refine AW.skip ?_
        | refine AW.exit ?_
        | refine AW.ret ?_
        | refine AW.block ?_
        | (refine AW.drawF (id := 5) 10 #[0, 1, 0, 0, 15, 31, 63, 63, 0, 383, 1023] (by kernel_rfl) (by kernel_rfl) ?_; (conv => (arg 8; simp only [List.take_succ_cons, List.take_zero])))
        | (refine AW.drawF (id := 12) 9 #[0, 0, 0, 7, 0, 0, 63, 0, 0, 511, 1023] (by kernel_rfl) (by kernel_rfl) ?_; (conv => (arg 8; simp only [List.take_succ_cons, List.take_zero])))
        | (refine AW.draw (id := 21) 9 #[0, 1, 0, 4, 0, 28, 60, 124, 255] (by kernel_rfl) (by kernel_rfl) ?_; (conv => (arg 8; simp only [List.take_succ_cons, List.take_zero])))
        | (refine AW.drawF (id := 23) 9 #[0, 1, 0, 7, 15, 31, 63, 63, 127, 511] (by kernel_rfl) (by kernel_rfl) ?_; (conv => (arg 8; simp only [List.take_succ_cons, List.take_zero])))
        | (refine AW.draw (id := 26) 22 #[0, 1, 0, 4, 12, 31, 63, 127, 0, 256, 0, 1024, 0, 4096, 12288, 28672, 64512, 130816, 261888, 524032, 255, 2097151] (by kernel_rfl) (by kernel_rfl) ?_; (conv => (arg 8; simp only [List.take_succ_cons, List.take_zero])))
        | (refine AW.region (id := 2) ?_; exfalso; first | omega | (simp at *; done) | (simp_all; done); done)
        | (refine AW.region (id := 4) ?_; exfalso; first | omega | (simp at *; done) | (simp_all; done); done)
        | (refine AW.region (id := 9) ?_; exfalso; first | omega | (simp at *; done) | (simp_all; done); done)
        | (refine AW.region (id := 11) ?_; exfalso; first | omega | (simp at *; done) | (simp_all; done); done)
        | (refine AW.region (id := 15) ?_; exfalso; first | omega | (simp at *; done) | (simp_all; done); done)
        | (refine AW.region (id := 19) ?_; exfalso; first | omega | (simp at *; done) | (simp_all; done); done)
        | refine AW.region ?_
        | (refine AW.conds rfl (fun hc => ?_) (fun hc => ?_) <;> (try simp only [decide_eq_true_eq, decide_eq_false_iff_not, Bool.not_true, Bool.not_false, Bool.not_eq_true', Bool.not_eq_false', Int.not_lt, Int.not_le, Classical.not_not, ne_eq] at hc) <;> first | (exfalso; first | contradiction | (first | omega | (simp at *; done) | (simp_all; done)); done) | skip))
      | ((with_reducible refine AD.on ?_); first
        | ((first | ((with_reducible refine AD.k_move ?_); first | (refine AD.q rfl (OQ.move (by conv => lhs; whnf)) rfl rfl rfl ?_)) | ((with_reducible refine AD.k_load ?_); first | (refine AD.q rfl (OQ.load1 (ty := 3) rfl (by kernel_rfl) (by conv => lhs; whnf)) rfl rfl rfl ?_) | (refine AD.q rfl (OQ.load1 (ty := 22) rfl (by kernel_rfl) (by conv => lhs; whnf)) rfl rfl rfl ?_)) | ((with_reducible refine AD.k_call ?_); first | refine AD.q rfl (OQ.max2 rfl rfl) rfl rfl rfl ?_ | refine AD.q rfl (OQ.lenS (xt := 22) (r := (none, 5, true)) rfl (by kernel_rfl)) rfl rfl rfl ?_ | refine AD.q rfl (OQ.min2 rfl rfl) rfl rfl rfl ?_) | ((with_reducible refine AD.k_assign ?_); first | (refine AD.q rfl (OQ.assign (by conv => lhs; whnf)) rfl rfl rfl ?_)) | ((with_reducible refine AD.k_binOp ?_); first | refine AD.q rfl (OQ.neq rfl rfl) rfl rfl rfl ?_ | refine AD.q rfl (OQ.subi rfl rfl (by omega)) rfl rfl rfl ?_ | refine AD.q rfl (OQ.sub rfl rfl) rfl rfl rfl ?_ | refine AD.q rfl (OQ.addi rfl rfl (by omega)) rfl rfl rfl ?_ | refine AD.q rfl (OQ.add rfl rfl) rfl rfl rfl ?_) | ((with_reducible refine AD.k_fieldAddr ?_); first | refine AD.q rfl (OQ.fieldA (ty := 55) (i := 0) (n := 1) (off := 0) (g := false) rfl (by kernel_rfl) (by decide)) rfl rfl rfl ?_ | refine AD.q rfl (OQ.fieldA (ty := 24) (i := 2) (n := 1) (off := 2) (g := false) rfl (by kernel_rfl) (by decide)) rfl rfl rfl ?_) | ((with_reducible refine AD.k_indexAddr ?_); first | refine AD.q rfl (OQ.idxAddr (ty := 22) (z := 5) (g := true) rfl rfl (by kernel_rfl) (by omega) (by omega)) rfl rfl rfl ?_)); (conv => (arg 10; try tactic => exact nrm)))
        | (refine AD.nil ?_; (conv => (arg 4; simp only [List.drop_succ_cons, List.drop_zero, List.drop_nil])); (conv => (arg 5; try tactic => exact nrm)); (conv => (arg 6; try tactic => exact nrm))))
      | ((with_reducible refine AF.on ?_); first
        | ((first | ((with_reducible refine AF.k_move ?_); first | (refine AF.q 0 (SW.q (OQ.move (by conv => lhs; whnf)) rfl) ?_)) | ((with_reducible refine AF.k_load ?_); first | refine AF.ql rfl (SW.q (OQ.loadN (ty := 24) (n := 3) rfl (by kernel_rfl) (by kernel_rfl) rfl) rfl) ?_ | refine AF.ql rfl (SW.q (OQ.loadN (ty := 55) (n := 5) rfl (by kernel_rfl) (by kernel_rfl) rfl) rfl) ?_) | ((with_reducible refine AF.k_call ?_); first | refine AF.q 2 (SW.pcall (g := 62) rfl (by kernel_rfl) rfl ((by exact HC _ _ _ rfl rfl)) rfl) ?_) | ((with_reducible refine AF.k_assign ?_); first | (refine AF.q 0 (SW.q (OQ.assign (by conv => lhs; whnf)) rfl) ?_)) | ((with_reducible refine AF.k_extract ?_); first | refine AF.q 0 (SW.q (OQ.extract rfl rfl) rfl) ?_)); (conv => (arg 9; try tactic => exact nrmF)); (conv => (arg 11; try simp only [List.nil_append, List.cons_append])))
        | ((first | ((with_reducible refine AF.k_call ?_); first | refine AF.n1 2 (SW.acall (g := 19) rfl (by kernel_rfl) rfl ((by first | exact Copy_q nm bd (l := l) (.blk 0 _ rfl rfl rfl) (by omega) | exact Copy_q nm bd (l := a) (.blk _ _ rfl rfl rfl) (by omega))) rfl) rfl ?_ | refine AF.n1 2 (SW.acall (g := 65) rfl (by kernel_rfl) rfl ((by exact R1 _ _ _ rfl rfl)) rfl) rfl ?_ | refine AF.n1 2 (SW.acall (g := 66) rfl (by kernel_rfl) rfl ((by exact R2 _ _ _ rfl rfl (by first | exact .inl rfl | exact .inr rfl))) rfl) rfl ?_) | ((with_reducible refine AF.k_alloc ?_); first | refine AF.n1 0 (SW.w (OW.alloc (ty := 24) (z := [.string ⟨#[]⟩, .int .i64 0, .slice none 0 0]) (by kernel_rfl) rfl) rfl) rfl ?_) | ((with_reducible refine AF.k_store ?_); first | (refine AF.sl rfl (SW.w (OW.store (ty := 24) (n := 3) rfl (by conv => lhs; whnf) rfl rfl (by kernel_rfl) rfl rfl (by decide) rfl (Nat.le_of_ble_eq_true rfl) (by intro r h; cases h)) rfl) rfl ?_))); (conv => (arg 9; try tactic => exact nrmF)); (conv => (arg 11; try simp only [List.nil_append, List.cons_append])); (conv => (arg 10; try tactic => exact nrmF)))
        | (refine AF.nil ?_ (by kernel_rfl); (conv => (arg 4; simp only [List.drop_succ_cons, List.drop_zero, List.drop_nil]))))
      | ((with_reducible refine FinP.on ?_); (first | refine FinP.ret (.tmp (by conv => lhs; whnf) .nil) ?_ rfl | refine FinP.end (.tmp (by conv => lhs; whnf) .nil) ?_ rfl); (try simp only [pack, List.drop, List.take]); all_goals ((first | rfl | (simp; done) | simp_all))))
/-- A correction at another tick. -/
theorem CoL_t (k : Nat) (s : St) (hk : k < l.length) (ho : Ors nm l) (h40 : l.length ≤ 40) (hoa : Ors nm a) (hob : Ors nm b) (la : a.length ≤ 40) (hb0 : l.length = b.length + 1) (hf : (fewB nm.size l.length && briefB nm.data.toList bd l) = true) (he : (orbE nm.data.toList bd l).2 = 0)
    (hRC : ∀ z, ACalls Try.prog 65 [obI nm bd 0 l, .int .i64 k, stV s] [some ⟨flatS l, false, z⟩] (obI nm bd 1 a) [some ⟨flatS l, false, z⟩, some ⟨flatS a, true, 5⟩])
    (hRW : ∀ z, z = 0 ∨ z = 5 → ACalls Try.prog 66 [obI nm bd 0 l, .int .i64 k] [some ⟨flatS l, false, z⟩] (obI nm bd 1 b) [some ⟨flatS l, false, z⟩, some ⟨flatS b, true, 5⟩])
    (hW : ((orbE nm.data.toList bd b).2 = 0 ∧ ∀ z, z = 0 ∨ z = 5 → ACalls Try.prog 63 [obI nm bd 0 l, .int .i64 k] [some ⟨flatS l, false, z⟩] (.tuple #[obI nm bd 1 b, .int .i64 0]) [some ⟨flatS l, false, z⟩, some ⟨flatS b, true, 5⟩]) ∨
      ((orbE nm.data.toList bd b).2 ≠ 0 ∧ ∀ z, z = 0 ∨ z = 5 → PCalls Try.prog 63 [obI nm bd 0 l, .int .i64 k] [some ⟨flatS l, false, z⟩] (.tuple #[ob0, .int .i64 (orbE nm.data.toList bd b).2])))
    (hC : ∀ z, ACalls Try.prog 62 [obI nm bd 0 l, .int .i64 k, stV s] [some ⟨flatS l, false, z⟩] (.tuple #[obI nm bd 1 a, .int .i64 0]) [some ⟨flatS l, false, z⟩, some ⟨flatS a, true, 5⟩]) (hea : (orbE nm.data.toList bd a).2 = 0) (ht : s.t ≠ (at_ l k).t) :
    PCalls Try.prog 14 [obI nm bd 0 l, .int .i64 k, stV s] [some ⟨flatS l, false, 0⟩] (.bool true) := by
  have hT0 : ∀ j, j < l.length → (flatS l)[j * 5]? = some (.int .i64 (at_ l j).t) := fun j hj => flatS_get l j 0 (by omega) hj
  have hnm := ho.nm
  have H1 := fun (m : Mem) (v : Value) (hS : SlB m v l) => brief_c (nm := nm) (bd := bd) hS ho.wf (by omega) (by omega)
  rw [hf] at H1
  have H2 := fun (m : Mem) (v : Value) (hS : SlB m v l) => Err_q (bd := bd) hS ho
  rw [he] at H2
  have H3 := fun (m : Mem) (v : Value) (hS : SlB m v a) => Err_q (bd := bd) hS hoa
  have H4 := fun (m : Mem) (v : Value) (hS : SlB m v b) => Err_q (bd := bd) hS hob
  have H5 := Within_c k 0 (l.length - 1)
  rw [show rngB k 0 (l.length - 1) = true from rngB_true.2 (by omega)] at H5
  have SA := fun z1 z2 => Same_c nm bd a z1 z2 (by omega)
  have SB := fun z1 z2 => Same_c nm bd b z1 z2 (by omega)
  have R1 := fun (m : Mem) (i : Nat) (blk : Blk) (hb : m.at i = some blk) (hc : blk.cells = flatS l) => via_e hb hc (flatS_scal l) (flatS_scal a) (hRC blk.esz) (args := [obI nm bd i l, .int .i64 k, stV s]) (v := obI nm bd m.length a) rfl rfl (by simp [rn3, rn2, rn1, τn]) rfl
  have R2 := fun (m : Mem) (i : Nat) (blk : Blk) (hb : m.at i = some blk) (hc : blk.cells = flatS l) (hz : blk.esz = 0 ∨ blk.esz = 5) => via_e hb hc (flatS_scal l) (flatS_scal b) (hRW blk.esz hz) (args := [obI nm bd i l, .int .i64 k]) (v := obI nm bd m.length b) rfl rfl (by simp [rn3, rn2, rn1, τn]) rfl
  clear hRC hRW he hf
  rw [hea] at H3
  clear hea
  generalize (orbE nm.data.toList bd b).2 = eb at *
  have HW : (eb = 0 ∧ ∀ (m : Mem) (i : Nat) (blk : Blk), m.at i = some blk → blk.cells = flatS l → blk.esz = 0 ∨ blk.esz = 5 → ACalls Try.prog 63 [obI nm bd i l, .int .i64 k] m (.tuple #[obI nm bd m.length b, .int .i64 0]) (m ++ [some ⟨flatS b, true, 5⟩])) ∨
      (eb ≠ 0 ∧ ∀ (m : Mem) (i : Nat) (blk : Blk), m.at i = some blk → blk.cells = flatS l → blk.esz = 0 ∨ blk.esz = 5 → PCalls Try.prog 63 [obI nm bd i l, .int .i64 k] m (.tuple #[ob0, .int .i64 eb])) := by
    rcases hW with ⟨h0, h⟩ | ⟨h0, h⟩
    · exact .inl ⟨h0, fun m i blk hb hc hz => via_e hb hc (flatS_scal l) (flatS_scal b) (h blk.esz hz) rfl rfl (by simp [rn3, rn2, rn1, τn]) rfl⟩
    · exact .inr ⟨h0, fun m i blk hb hc hz => PCalls.via (fun _ => i) (h blk.esz hz) (lies1 hb hc) rfl rfl rfl rfl⟩
  clear hW
  have HC : ∀ (m : Mem) (i : Nat) (blk : Blk), m.at i = some blk → blk.cells = flatS l → ACalls Try.prog 62 [obI nm bd i l, .int .i64 k, stV s] m (.tuple #[obI nm bd m.length a, .int .i64 0]) (m ++ [some ⟨flatS a, true, 5⟩]) :=
    fun m i blk hb hc => via_e hb hc (flatS_scal l) (flatS_scal a) (hC blk.esz) rfl rfl (by simp [rn3, rn2, rn1, τn]) rfl
  clear hC
  rcases HW with ⟨rfl, HW⟩ | ⟨heb, HW⟩
  all_goals
    refine PCalls.enter (t := [obI nm bd 0 l, .int .i64 k, stV s, undef, undef, undef, undef, undef, undef, undef, undef, undef, undef, undef, undef, undef, undef, undef, undef, undef, undef, undef, undef, undef, undef, undef, undef, undef, undef, undef, undef, undef, undef, undef, undef, undef, undef, undef, undef, undef, undef, undef, undef, undef, undef, undef, undef, undef, undef, undef, undef, undef, undef, undef, undef, undef, undef, undef, undef, undef, undef, undef, undef, undef, undef, undef, undef, undef, undef, undef, undef, undef, undef, undef, undef, undef, undef, undef, undef, undef, undef, undef, undef, undef, undef, undef, undef, undef, undef, undef, undef, undef, undef, undef, undef, undef, undef, undef, undef, undef, undef, undef, undef, undef, undef, undef, undef, undef, undef, undef, undef, undef, undef, undef, undef, undef, undef, undef, undef, undef, undef, undef, undef, undef, undef, undef, undef, undef, undef, undef, undef, undef, undef, undef, undef, undef, undef, undef, undef, undef, undef, undef, undef, undef, undef, undef, undef, undef, undef, undef, undef, undef, undef, undef, undef, undef, undef, undef, undef, undef, undef, undef, undef, undef, undef, undef, undef, undef, undef, undef, undef, undef, undef, undef, undef, undef, undef, undef, undef, undef, undef, undef, undef, undef, undef, undef, undef, undef, undef, undef, undef, undef, undef, undef, undef, undef]) Try.func14 rfl (ro1 _ rfl) rfl fun E => ?_
    repeat' (first
      | with_reducible refine Then.n ?_
      | with_reducible refine Then.r ?_
      | with_reducible refine Then.x ?_
      | with_reducible refine InB.n ?_
      | with_reducible refine InB.r ?_
      | with_reducible refine InB.hit ?_
      | with_reducible refine InB.miss (by decide) ?_
      | ((with_reducible refine AL.on ?_); first
        | (refine AL.gd rfl ?_; first | (refine AL.gskip rfl rfl ?_; (conv => (arg 5; try tactic => exact nrm))) | (refine AL.gs1 rfl rfl (fun hc => ?_) (fun hc => ?_) <;> (try simp only [decide_eq_true_eq, decide_eq_false_iff_not, Bool.not_true, Bool.not_false, Bool.not_eq_true', Bool.not_eq_false', Int.not_lt, Int.not_le, Classical.not_not, ne_eq] at hc) <;> first | (exfalso; first | contradiction | (first | omega | (simp at *; done) | (simp_all; done)); done) | (conv => (arg 5; try tactic => exact nrm))) | (refine AL.gs0 rfl rfl (fun hc => ?_) (fun hc => ?_) <;> (try simp only [decide_eq_true_eq, decide_eq_false_iff_not, Bool.not_true, Bool.not_false, Bool.not_eq_true', Bool.not_eq_false', Int.not_lt, Int.not_le, Classical.not_not, ne_eq] at hc) <;> first | (exfalso; first | contradiction | (first | omega | (simp at *; done) | (simp_all; done)); done) | (conv => (arg 5; try tactic => exact nrm))))
        | ((first | ((with_reducible refine AL.k_move ?_); first | (refine AL.q rfl (OQ.move (by conv => lhs; whnf)) ?_)) | ((with_reducible refine AL.k_load ?_); first | refine AL.q rfl (OQ.loadN (ty := 24) (n := 3) rfl (by kernel_rfl) (by kernel_rfl) (by first | (exact hT0 k hk) | rfl)) ?_ | (refine AL.q rfl (OQ.load1 (ty := 22) rfl (by kernel_rfl) (by first | (exact hT0 k hk) | (conv => lhs; whnf))) ?_) | (refine AL.q rfl (OQ.load1 (ty := 3) rfl (by kernel_rfl) (by first | (exact hT0 k hk) | (conv => lhs; whnf))) ?_)) | ((with_reducible refine AL.k_call ?_); first | refine AL.q rfl (OQ.lenS (xt := 22) (r := (none, 5, true)) rfl (by kernel_rfl)) ?_ | refine AL.q rfl (OQ.lenS (xt := 29) (r := (none, 2, true)) rfl (by kernel_rfl)) ?_) | ((with_reducible refine AL.k_assign ?_); first | (refine AL.q rfl (OQ.assign (by conv => lhs; whnf)) ?_)) | ((with_reducible refine AL.k_binOp ?_); first | refine AL.q rfl (OQ.eql rfl rfl) ?_ | refine AL.q rfl (OQ.subi rfl rfl (by omega)) ?_ | refine AL.q rfl (OQ.sub rfl rfl) ?_ | refine AL.q rfl (OQ.neq rfl rfl) ?_ | refine AL.q rfl (OQ.gtr rfl rfl) ?_ | refine AL.q rfl (OQ.lss rfl rfl) ?_ | refine AL.q rfl (OQ.addi rfl rfl (by omega)) ?_ | refine AL.q rfl (OQ.add rfl rfl) ?_) | ((with_reducible refine AL.k_pick ?_); first | (refine AL.q rfl (OQ.pickT rfl (by with_reducible rfl) (by conv => lhs; whnf)) ?_) | (refine AL.q rfl (OQ.pickF rfl (by with_reducible rfl) (by conv => lhs; whnf)) ?_)) | ((with_reducible refine AL.k_unOp ?_); first | refine AL.q rfl (OQ.not rfl) ?_) | ((with_reducible refine AL.k_extract ?_); first | refine AL.q rfl (OQ.extract rfl rfl) ?_)); (conv => (arg 5; try tactic => exact nrm)))
        | ((first | ((with_reducible refine AL.k_call ?_); first | refine AL.pcall (g := 16) rfl (by kernel_rfl) rfl (awake_q _) ?_ | refine AL.pcall (g := 17) rfl (by kernel_rfl) rfl (H1 _ _ (.blk 0 _ rfl rfl rfl)) ?_ | refine AL.pcall (g := 20) rfl (by kernel_rfl) rfl ((by first | exact H2 _ _ (.blk 0 _ rfl rfl rfl) | exact H3 _ _ (.blk _ _ rfl rfl rfl) | exact H4 _ _ (.blk _ _ rfl rfl rfl))) ?_ | refine AL.pcall (g := 22) rfl (by kernel_rfl) rfl (H5 _) ?_ | refine AL.pcall (g := 64) rfl (by kernel_rfl) rfl ((by first | exact PCalls.any Same_z rfl rfl _ | exact two_v SA rfl rfl rfl rfl rfl rfl rfl rfl | exact two_v SB rfl rfl rfl rfl rfl rfl rfl rfl)) ?_) | ((with_reducible refine AL.k_fieldAddr ?_); first | refine AL.q rfl (OQ.fieldA (ty := 24) (i := 2) (n := 1) (off := 2) (g := false) rfl (by kernel_rfl) (by decide)) ?_ | refine AL.q rfl (OQ.fieldA (ty := 44) (i := 0) (n := 1) (off := 0) (g := false) rfl (by kernel_rfl) (by decide)) ?_ | refine AL.q rfl (OQ.fieldA (ty := 44) (i := 1) (n := 1) (off := 1) (g := false) rfl (by kernel_rfl) (by decide)) ?_) | ((with_reducible refine AL.k_indexAddr ?_); first | refine AL.q rfl (OQ.idxAddr (ty := 29) (z := 2) (g := true) rfl rfl (by kernel_rfl) (by omega) (by omega)) ?_) | ((with_reducible refine AL.k_build ?_); first | refine AL.q rfl (OQ.buildS (ty := 24) (zs := [.string ⟨#[]⟩, .int .i64 0, .slice none 0 0]) (pls := [(0, 1), (1, 1), (2, 1)]) (by kernel_rfl) rfl (by kernel_rfl) rfl rfl rfl) ?_)); (conv => (arg 5; try tactic => exact nrm)))
        | ((first | ((with_reducible refine AL.k_call ?_); first | refine AL.acall (g := 19) rfl (by kernel_rfl) rfl ((by first | exact Copy_q nm bd (l := l) (.blk 0 _ rfl rfl rfl) (by omega) | exact Copy_q nm bd (l := a) (.blk _ _ rfl rfl rfl) (by omega))) ?_ | refine AL.acall (g := 63) rfl (by kernel_rfl) rfl ((by exact HW _ _ _ rfl rfl (by first | exact .inl rfl | exact .inr rfl))) ?_ | refine AL.pcall (g := 63) rfl (by kernel_rfl) rfl ((by exact HW _ _ _ rfl rfl (by first | exact .inl rfl | exact .inr rfl))) ?_) | ((with_reducible refine AL.k_alloc ?_); first | refine AL.w rfl (OW.alloc (ty := 24) (z := [.string ⟨#[]⟩, .int .i64 0, .slice none 0 0]) (by kernel_rfl) rfl) ?_) | ((with_reducible refine AL.k_store ?_); first | (refine AL.w rfl (OW.store (ty := 24) (n := 3) rfl (by conv => lhs; whnf) rfl rfl (by kernel_rfl) rfl rfl (by decide) rfl (Nat.le_of_ble_eq_true rfl) (by intro r h; cases h)) ?_)) | ((with_reducible refine AL.k_box ?_); first | (refine AL.w rfl (OW.box (by conv => lhs; whnf) (by intro r h; cases h)) ?_))); (conv => (arg 5; try tactic => exact nrm)); (conv => (arg 6; try tactic => exact nrm)))
        | (refine AL.bs rfl (fun hc => ?_) (fun hc => ?_) <;> (fail_if_success (with_reducible exact lit_no hc)) <;> (try simp only [decide_eq_true_eq, decide_eq_false_iff_not, Bool.not_true, Bool.not_false, Bool.not_eq_true', Bool.not_eq_false', Int.not_lt, Int.not_le, Classical.not_not, ne_eq] at hc) <;> first | (exfalso; first | contradiction | (first | omega | (simp at *; done) | (simp_all; done)); done) | (conv => (arg 5; try tactic => exact nrm)))
        | refine AL.nil ?_)
      | ((with_reducible refine AW.on ?_); first
        | refine AW.seq ?_
        | refine AW.skip ?_
        | refine AW.exit ?_
        | refine AW.ret ?_
        | refine AW.block ?_
        | (refine AW.drawF (id := 5) 10 #[0, 1, 0, 0, 15, 31, 63, 63, 0, 383, 1023] (by kernel_rfl) (by kernel_rfl) ?_; (conv => (arg 8; simp only [List.take_succ_cons, List.take_zero])))
        | (refine AW.drawF (id := 12) 9 #[0, 0, 0, 7, 0, 0, 63, 0, 0, 511, 1023] (by kernel_rfl) (by kernel_rfl) ?_; (conv => (arg 8; simp only [List.take_succ_cons, List.take_zero])))
        | (refine AW.draw (id := 21) 9 #[0, 1, 0, 4, 0, 28, 60, 124, 255] (by kernel_rfl) (by kernel_rfl) ?_; (conv => (arg 8; simp only [List.take_succ_cons, List.take_zero])))
        | (refine AW.drawF (id := 23) 9 #[0, 1, 0, 7, 15, 31, 63, 63, 127, 511] (by kernel_rfl) (by kernel_rfl) ?_; (conv => (arg 8; simp only [List.take_succ_cons, List.take_zero])))
        | (refine AW.draw (id := 26) 22 #[0, 1, 0, 4, 12, 31, 63, 127, 0, 256, 0, 1024, 0, 4096, 12288, 28672, 64512, 130816, 261888, 524032, 255, 2097151] (by kernel_rfl) (by kernel_rfl) ?_; (conv => (arg 8; simp only [List.take_succ_cons, List.take_zero])))
        | (refine AW.region (id := 2) ?_; exfalso; first | omega | (simp at *; done) | (simp_all; done); done)
        | (refine AW.region (id := 4) ?_; exfalso; first | omega | (simp at *; done) | (simp_all; done); done)
        | (refine AW.region (id := 9) ?_; exfalso; first | omega | (simp at *; done) | (simp_all; done); done)
        | (refine AW.region (id := 11) ?_; exfalso; first | omega | (simp at *; done) | (simp_all; done); done)
        | (refine AW.region (id := 15) ?_; exfalso; first | omega | (simp at *; done) | (simp_all; done); done)
        | (refine AW.region (id := 18) ?_; exfalso; first | omega | (simp at *; done) | (simp_all; done); done)
        | (refine AW.region (id := 20) ?_; exfalso; first | omega | (simp at *; done) | (simp_all; done); done)
        | refine AW.region ?_
        | (refine AW.conds rfl (fun hc => ?_) (fun hc => ?_) <;> (try simp only [decide_eq_true_eq, decide_eq_false_iff_not, Bool.not_true, Bool.not_false, Bool.not_eq_true', Bool.not_eq_false', Int.not_lt, Int.not_le, Classical.not_not, ne_eq] at hc) <;> first | (exfalso; first | contradiction | (first | omega | (simp at *; done) | (simp_all; done)); done) | skip))
      | ((with_reducible refine AD.on ?_); first
        | ((first | ((with_reducible refine AD.k_move ?_); first | (refine AD.q rfl (OQ.move (by conv => lhs; whnf)) rfl rfl rfl ?_)) | ((with_reducible refine AD.k_load ?_); first | (refine AD.q rfl (OQ.load1 (ty := 3) rfl (by kernel_rfl) (by first | (exact hT0 k hk) | (conv => lhs; whnf))) rfl rfl rfl ?_) | (refine AD.q rfl (OQ.load1 (ty := 22) rfl (by kernel_rfl) (by first | (exact hT0 k hk) | (conv => lhs; whnf))) rfl rfl rfl ?_)) | ((with_reducible refine AD.k_call ?_); first | refine AD.q rfl (OQ.max2 rfl rfl) rfl rfl rfl ?_ | refine AD.q rfl (OQ.lenS (xt := 22) (r := (none, 5, true)) rfl (by kernel_rfl)) rfl rfl rfl ?_ | refine AD.q rfl (OQ.min2 rfl rfl) rfl rfl rfl ?_) | ((with_reducible refine AD.k_assign ?_); first | (refine AD.q rfl (OQ.assign (by conv => lhs; whnf)) rfl rfl rfl ?_)) | ((with_reducible refine AD.k_binOp ?_); first | refine AD.q rfl (OQ.neq rfl rfl) rfl rfl rfl ?_ | refine AD.q rfl (OQ.subi rfl rfl (by omega)) rfl rfl rfl ?_ | refine AD.q rfl (OQ.sub rfl rfl) rfl rfl rfl ?_ | refine AD.q rfl (OQ.addi rfl rfl (by omega)) rfl rfl rfl ?_ | refine AD.q rfl (OQ.add rfl rfl) rfl rfl rfl ?_)); (conv => (arg 10; try tactic => exact nrm)))
        | ((first | ((with_reducible refine AD.k_fieldAddr ?_); first | refine AD.q rfl (OQ.fieldA (ty := 55) (i := 0) (n := 1) (off := 0) (g := false) rfl (by kernel_rfl) (by decide)) rfl rfl rfl ?_ | refine AD.q rfl (OQ.fieldA (ty := 24) (i := 2) (n := 1) (off := 2) (g := false) rfl (by kernel_rfl) (by decide)) rfl rfl rfl ?_) | ((with_reducible refine AD.k_indexAddr ?_); first | refine AD.q rfl (OQ.idxAddr (ty := 22) (z := 5) (g := true) rfl rfl (by kernel_rfl) (by omega) (by omega)) rfl rfl rfl ?_)); (conv => (arg 10; try tactic => exact nrm)))
        | (refine AD.nil ?_; (conv => (arg 4; simp only [List.drop_succ_cons, List.drop_zero, List.drop_nil])); (conv => (arg 5; try tactic => exact nrm)); (conv => (arg 6; try tactic => exact nrm))))
      | ((with_reducible refine AF.on ?_); first
        | ((first | ((with_reducible refine AF.k_move ?_); first | (refine AF.q 0 (SW.q (OQ.move (by conv => lhs; whnf)) rfl) ?_)) | ((with_reducible refine AF.k_load ?_); first | refine AF.ql rfl (SW.q (OQ.loadN (ty := 24) (n := 3) rfl (by kernel_rfl) (by kernel_rfl) (by first | (exact hT0 k hk) | rfl)) rfl) ?_ | refine AF.ql rfl (SW.q (OQ.loadN (ty := 55) (n := 5) rfl (by kernel_rfl) (by kernel_rfl) (by first | (exact hT0 k hk) | rfl)) rfl) ?_) | ((with_reducible refine AF.k_assign ?_); first | (refine AF.q 0 (SW.q (OQ.assign (by conv => lhs; whnf)) rfl) ?_)) | ((with_reducible refine AF.k_extract ?_); first | refine AF.q 0 (SW.q (OQ.extract rfl rfl) rfl) ?_)); (conv => (arg 9; try tactic => exact nrmF)); (conv => (arg 11; try simp only [List.nil_append, List.cons_append])))
        | ((first | ((with_reducible refine AF.k_call ?_); first | refine AF.n1 2 (SW.acall (g := 19) rfl (by kernel_rfl) rfl ((by first | exact Copy_q nm bd (l := l) (.blk 0 _ rfl rfl rfl) (by omega) | exact Copy_q nm bd (l := a) (.blk _ _ rfl rfl rfl) (by omega))) rfl) rfl ?_ | refine AF.n1 2 (SW.acall (g := 62) rfl (by kernel_rfl) rfl ((by exact HC _ _ _ rfl rfl)) rfl) rfl ?_ | refine AF.n1 2 (SW.acall (g := 65) rfl (by kernel_rfl) rfl ((by exact R1 _ _ _ rfl rfl)) rfl) rfl ?_ | refine AF.n1 2 (SW.acall (g := 66) rfl (by kernel_rfl) rfl ((by exact R2 _ _ _ rfl rfl (by first | exact .inl rfl | exact .inr rfl))) rfl) rfl ?_) | ((with_reducible refine AF.k_alloc ?_); first | refine AF.n1 0 (SW.w (OW.alloc (ty := 24) (z := [.string ⟨#[]⟩, .int .i64 0, .slice none 0 0]) (by kernel_rfl) rfl) rfl) rfl ?_) | ((with_reducible refine AF.k_store ?_); first | (refine AF.sl rfl (SW.w (OW.store (ty := 24) (n := 3) rfl (by conv => lhs; whnf) rfl rfl (by kernel_rfl) rfl rfl (by decide) rfl (Nat.le_of_ble_eq_true rfl) (by intro r h; cases h)) rfl) rfl ?_))); (conv => (arg 9; try tactic => exact nrmF)); (conv => (arg 11; try simp only [List.nil_append, List.cons_append])); (conv => (arg 10; try tactic => exact nrmF)))
        | (refine AF.nil ?_ (by kernel_rfl); (conv => (arg 4; simp only [List.drop_succ_cons, List.drop_zero, List.drop_nil]))))
      | ((with_reducible refine FinP.on ?_); (first | refine FinP.ret (.tmp (by conv => lhs; whnf) .nil) ?_ rfl | refine FinP.end (.tmp (by conv => lhs; whnf) .nil) ?_ rfl); (try simp only [pack, List.drop, List.take]); all_goals ((first | rfl | (simp; done) | simp_all))))
/-- A correction that touches nothing. -/
theorem CoL_0 (k : Nat) (s : St) (hk : k < l.length) (ho : Ors nm l) (h40 : l.length ≤ 40) (hoa : Ors nm a) (hob : Ors nm b) (la : a.length ≤ 40) (hb0 : l.length = b.length + 1) (hf : (fewB nm.size l.length && briefB nm.data.toList bd l) = true) (he : (orbE nm.data.toList bd l).2 = 0)
    (hRC : ∀ z, ACalls Try.prog 65 [obI nm bd 0 l, .int .i64 k, stV s] [some ⟨flatS l, false, z⟩] (obI nm bd 1 a) [some ⟨flatS l, false, z⟩, some ⟨flatS a, true, 5⟩])
    (hRW : ∀ z, z = 0 ∨ z = 5 → ACalls Try.prog 66 [obI nm bd 0 l, .int .i64 k] [some ⟨flatS l, false, z⟩] (obI nm bd 1 b) [some ⟨flatS l, false, z⟩, some ⟨flatS b, true, 5⟩])
    (hW : ((orbE nm.data.toList bd b).2 = 0 ∧ ∀ z, z = 0 ∨ z = 5 → ACalls Try.prog 63 [obI nm bd 0 l, .int .i64 k] [some ⟨flatS l, false, z⟩] (.tuple #[obI nm bd 1 b, .int .i64 0]) [some ⟨flatS l, false, z⟩, some ⟨flatS b, true, 5⟩]) ∨
      ((orbE nm.data.toList bd b).2 ≠ 0 ∧ ∀ z, z = 0 ∨ z = 5 → PCalls Try.prog 63 [obI nm bd 0 l, .int .i64 k] [some ⟨flatS l, false, z⟩] (.tuple #[ob0, .int .i64 (orbE nm.data.toList bd b).2])))
    (hC : ∀ z, ACalls Try.prog 62 [obI nm bd 0 l, .int .i64 k, stV s] [some ⟨flatS l, false, z⟩] (.tuple #[obI nm bd 1 a, .int .i64 0]) [some ⟨flatS l, false, z⟩, some ⟨flatS a, true, 5⟩]) (hea : (orbE nm.data.toList bd a).2 = 0) (ht : s.t = (at_ l k).t)
    (hT : ∀ z1 z2, PCalls Try.prog 58 [obI nm bd 0 l, obI nm bd 1 a] (two l a z1 z2) (.tuple #[.slice none 0 0, .int .i64 0])) :
    PCalls Try.prog 14 [obI nm bd 0 l, .int .i64 k, stV s] [some ⟨flatS l, false, 0⟩] (.bool true) := by
  have hT0 : ∀ j, j < l.length → (flatS l)[j * 5]? = some (.int .i64 (at_ l j).t) := fun j hj => flatS_get l j 0 (by omega) hj
  have hT1 : (flatS l)[(if (0 : Int) > (k : Int) - 1 then 0 else (k : Int) - 1).toNat * 5]? = some (.int .i64 (loT l k)) := by
    rw [show (if (0 : Int) > (k : Int) - 1 then 0 else (k : Int) - 1).toNat = k - 1 by split <;> omega]
    exact hT0 _ (by omega)
  have hT2 : (flatS l)[(if (l.length : Int) - 1 < (k : Int) + 1 then (l.length : Int) - 1 else (k : Int) + 1).toNat * 5]? = some (.int .i64 (hiT l k)) := by
    rw [show (if (l.length : Int) - 1 < (k : Int) + 1 then (l.length : Int) - 1 else (k : Int) + 1).toNat = if k + 1 < l.length then k + 1 else l.length - 1 by split <;> split <;> omega]
    exact hT0 _ (by split <;> omega)
  have hI1 : 0 ≤ (if (0 : Int) > (k : Int) - 1 then 0 else (k : Int) - 1) ∧ (if (0 : Int) > (k : Int) - 1 then 0 else (k : Int) - 1) < l.length := by split <;> omega
  have hI2 : 0 ≤ (if (l.length : Int) - 1 < (k : Int) + 1 then (l.length : Int) - 1 else (k : Int) + 1) ∧ (if (l.length : Int) - 1 < (k : Int) + 1 then (l.length : Int) - 1 else (k : Int) + 1) < l.length := by split <;> omega
  have hnm := ho.nm
  have H1 := fun (m : Mem) (v : Value) (hS : SlB m v l) => brief_c (nm := nm) (bd := bd) hS ho.wf (by omega) (by omega)
  rw [hf] at H1
  have H2 := fun (m : Mem) (v : Value) (hS : SlB m v l) => Err_q (bd := bd) hS ho
  rw [he] at H2
  have H3 := fun (m : Mem) (v : Value) (hS : SlB m v a) => Err_q (bd := bd) hS hoa
  have H4 := fun (m : Mem) (v : Value) (hS : SlB m v b) => Err_q (bd := bd) hS hob
  have H5 := Within_c k 0 (l.length - 1)
  rw [show rngB k 0 (l.length - 1) = true from rngB_true.2 (by omega)] at H5
  have SA := fun z1 z2 => Same_c nm bd a z1 z2 (by omega)
  have SB := fun z1 z2 => Same_c nm bd b z1 z2 (by omega)
  have R1 := fun (m : Mem) (i : Nat) (blk : Blk) (hb : m.at i = some blk) (hc : blk.cells = flatS l) => via_e hb hc (flatS_scal l) (flatS_scal a) (hRC blk.esz) (args := [obI nm bd i l, .int .i64 k, stV s]) (v := obI nm bd m.length a) rfl rfl (by simp [rn3, rn2, rn1, τn]) rfl
  have R2 := fun (m : Mem) (i : Nat) (blk : Blk) (hb : m.at i = some blk) (hc : blk.cells = flatS l) (hz : blk.esz = 0 ∨ blk.esz = 5) => via_e hb hc (flatS_scal l) (flatS_scal b) (hRW blk.esz hz) (args := [obI nm bd i l, .int .i64 k]) (v := obI nm bd m.length b) rfl rfl (by simp [rn3, rn2, rn1, τn]) rfl
  clear hRC hRW he hf
  rw [hea] at H3
  clear hea
  generalize (orbE nm.data.toList bd b).2 = eb at *
  have HW : (eb = 0 ∧ ∀ (m : Mem) (i : Nat) (blk : Blk), m.at i = some blk → blk.cells = flatS l → blk.esz = 0 ∨ blk.esz = 5 → ACalls Try.prog 63 [obI nm bd i l, .int .i64 k] m (.tuple #[obI nm bd m.length b, .int .i64 0]) (m ++ [some ⟨flatS b, true, 5⟩])) ∨
      (eb ≠ 0 ∧ ∀ (m : Mem) (i : Nat) (blk : Blk), m.at i = some blk → blk.cells = flatS l → blk.esz = 0 ∨ blk.esz = 5 → PCalls Try.prog 63 [obI nm bd i l, .int .i64 k] m (.tuple #[ob0, .int .i64 eb])) := by
    rcases hW with ⟨h0, h⟩ | ⟨h0, h⟩
    · exact .inl ⟨h0, fun m i blk hb hc hz => via_e hb hc (flatS_scal l) (flatS_scal b) (h blk.esz hz) rfl rfl (by simp [rn3, rn2, rn1, τn]) rfl⟩
    · exact .inr ⟨h0, fun m i blk hb hc hz => PCalls.via (fun _ => i) (h blk.esz hz) (lies1 hb hc) rfl rfl rfl rfl⟩
  clear hW
  have HC : ∀ (m : Mem) (i : Nat) (blk : Blk), m.at i = some blk → blk.cells = flatS l → ACalls Try.prog 62 [obI nm bd i l, .int .i64 k, stV s] m (.tuple #[obI nm bd m.length a, .int .i64 0]) (m ++ [some ⟨flatS a, true, 5⟩]) :=
    fun m i blk hb hc => via_e hb hc (flatS_scal l) (flatS_scal a) (hC blk.esz) rfl rfl (by simp [rn3, rn2, rn1, τn]) rfl
  clear hC
  rcases HW with ⟨rfl, HW⟩ | ⟨heb, HW⟩
  all_goals
    refine PCalls.enter (t := [obI nm bd 0 l, .int .i64 k, stV s, undef, undef, undef, undef, undef, undef, undef, undef, undef, undef, undef, undef, undef, undef, undef, undef, undef, undef, undef, undef, undef, undef, undef, undef, undef, undef, undef, undef, undef, undef, undef, undef, undef, undef, undef, undef, undef, undef, undef, undef, undef, undef, undef, undef, undef, undef, undef, undef, undef, undef, undef, undef, undef, undef, undef, undef, undef, undef, undef, undef, undef, undef, undef, undef, undef, undef, undef, undef, undef, undef, undef, undef, undef, undef, undef, undef, undef, undef, undef, undef, undef, undef, undef, undef, undef, undef, undef, undef, undef, undef, undef, undef, undef, undef, undef, undef, undef, undef, undef, undef, undef, undef, undef, undef, undef, undef, undef, undef, undef, undef, undef, undef, undef, undef, undef, undef, undef, undef, undef, undef, undef, undef, undef, undef, undef, undef, undef, undef, undef, undef, undef, undef, undef, undef, undef, undef, undef, undef, undef, undef, undef, undef, undef, undef, undef, undef, undef, undef, undef, undef, undef, undef, undef, undef, undef, undef, undef, undef, undef, undef, undef, undef, undef, undef, undef, undef, undef, undef, undef, undef, undef, undef, undef, undef, undef, undef, undef, undef, undef, undef, undef, undef, undef, undef, undef, undef, undef, undef, undef, undef, undef, undef, undef]) Try.func14 rfl (ro1 _ rfl) rfl fun E => ?_
    repeat' (first
      | with_reducible refine Then.n ?_
      | with_reducible refine Then.r ?_
      | with_reducible refine Then.x ?_
      | with_reducible refine InB.n ?_
      | with_reducible refine InB.r ?_
      | with_reducible refine InB.hit ?_
      | with_reducible refine InB.miss (by decide) ?_
      | ((with_reducible refine AL.on ?_); first
        | (refine AL.gd rfl ?_; first | (refine AL.gskip rfl rfl ?_; (conv => (arg 5; try tactic => exact nrm))) | (refine AL.gs1 rfl rfl (fun hc => ?_) (fun hc => ?_) <;> (try simp only [decide_eq_true_eq, decide_eq_false_iff_not, Bool.not_true, Bool.not_false, Bool.not_eq_true', Bool.not_eq_false', Int.not_lt, Int.not_le, Classical.not_not, ne_eq] at hc) <;> first | (exfalso; first | contradiction | (first | omega | (simp at *; done) | (simp_all; done)); done) | (conv => (arg 5; try tactic => exact nrm))) | (refine AL.gs0 rfl rfl (fun hc => ?_) (fun hc => ?_) <;> (try simp only [decide_eq_true_eq, decide_eq_false_iff_not, Bool.not_true, Bool.not_false, Bool.not_eq_true', Bool.not_eq_false', Int.not_lt, Int.not_le, Classical.not_not, ne_eq] at hc) <;> first | (exfalso; first | contradiction | (first | omega | (simp at *; done) | (simp_all; done)); done) | (conv => (arg 5; try tactic => exact nrm))))
        | ((first | ((with_reducible refine AL.k_move ?_); first | (refine AL.q rfl (OQ.move (by conv => lhs; whnf)) ?_)) | ((with_reducible refine AL.k_load ?_); first | refine AL.q rfl (OQ.loadN (ty := 24) (n := 3) rfl (by kernel_rfl) (by kernel_rfl) (by first | (first | exact hT0 k hk | exact hT1 | exact hT2) | rfl)) ?_ | (refine AL.q rfl (OQ.load1 (ty := 22) rfl (by kernel_rfl) (by first | (first | exact hT0 k hk | exact hT1 | exact hT2) | (conv => lhs; whnf))) ?_) | (refine AL.q rfl (OQ.load1 (ty := 3) rfl (by kernel_rfl) (by first | (first | exact hT0 k hk | exact hT1 | exact hT2) | (conv => lhs; whnf))) ?_)) | ((with_reducible refine AL.k_call ?_); first | refine AL.q rfl (OQ.lenS (xt := 22) (r := (none, 5, true)) rfl (by kernel_rfl)) ?_ | refine AL.q rfl (OQ.lenS (xt := 29) (r := (none, 2, true)) rfl (by kernel_rfl)) ?_) | ((with_reducible refine AL.k_assign ?_); first | (refine AL.q rfl (OQ.assign (by conv => lhs; whnf)) ?_)) | ((with_reducible refine AL.k_binOp ?_); first | refine AL.q rfl (OQ.eql rfl rfl) ?_ | refine AL.q rfl (OQ.subi rfl rfl (by omega)) ?_ | refine AL.q rfl (OQ.sub rfl rfl) ?_ | refine AL.q rfl (OQ.neq rfl rfl) ?_ | refine AL.q rfl (OQ.gtr rfl rfl) ?_ | refine AL.q rfl (OQ.lss rfl rfl) ?_ | refine AL.q rfl (OQ.addi rfl rfl (by omega)) ?_ | refine AL.q rfl (OQ.add rfl rfl) ?_) | ((with_reducible refine AL.k_pick ?_); first | (refine AL.q rfl (OQ.pickT rfl (by with_reducible rfl) (by conv => lhs; whnf)) ?_) | (refine AL.q rfl (OQ.pickF rfl (by with_reducible rfl) (by conv => lhs; whnf)) ?_)) | ((with_reducible refine AL.k_unOp ?_); first | refine AL.q rfl (OQ.not rfl) ?_) | ((with_reducible refine AL.k_extract ?_); first | refine AL.q rfl (OQ.extract rfl rfl) ?_)); (conv => (arg 5; try tactic => exact nrm)))
        | ((first | ((with_reducible refine AL.k_call ?_); first | refine AL.pcall (g := 16) rfl (by kernel_rfl) rfl (awake_q _) ?_ | refine AL.pcall (g := 17) rfl (by kernel_rfl) rfl (H1 _ _ (.blk 0 _ rfl rfl rfl)) ?_ | refine AL.pcall (g := 20) rfl (by kernel_rfl) rfl ((by first | exact H2 _ _ (.blk 0 _ rfl rfl rfl) | exact H3 _ _ (.blk _ _ rfl rfl rfl) | exact H4 _ _ (.blk _ _ rfl rfl rfl))) ?_ | refine AL.pcall (g := 22) rfl (by kernel_rfl) rfl (H5 _) ?_ | refine AL.pcall (g := 64) rfl (by kernel_rfl) rfl ((by first | exact PCalls.any Same_z rfl rfl _ | exact two_v SA rfl rfl rfl rfl rfl rfl rfl rfl | exact two_v SB rfl rfl rfl rfl rfl rfl rfl rfl)) ?_) | ((with_reducible refine AL.k_fieldAddr ?_); first | refine AL.q rfl (OQ.fieldA (ty := 24) (i := 2) (n := 1) (off := 2) (g := false) rfl (by kernel_rfl) (by decide)) ?_ | refine AL.q rfl (OQ.fieldA (ty := 44) (i := 0) (n := 1) (off := 0) (g := false) rfl (by kernel_rfl) (by decide)) ?_ | refine AL.q rfl (OQ.fieldA (ty := 44) (i := 1) (n := 1) (off := 1) (g := false) rfl (by kernel_rfl) (by decide)) ?_) | ((with_reducible refine AL.k_indexAddr ?_); first | refine AL.q rfl (OQ.idxAddr (ty := 29) (z := 2) (g := true) rfl rfl (by kernel_rfl) (by first | omega | exact hI1.1 | exact hI1.2 | exact hI2.1 | exact hI2.2) (by first | omega | exact hI1.1 | exact hI1.2 | exact hI2.1 | exact hI2.2)) ?_) | ((with_reducible refine AL.k_build ?_); first | refine AL.q rfl (OQ.buildS (ty := 24) (zs := [.string ⟨#[]⟩, .int .i64 0, .slice none 0 0]) (pls := [(0, 1), (1, 1), (2, 1)]) (by kernel_rfl) rfl (by kernel_rfl) rfl rfl rfl) ?_)); (conv => (arg 5; try tactic => exact nrm)))
        | ((first | ((with_reducible refine AL.k_call ?_); first | refine AL.acall (g := 19) rfl (by kernel_rfl) rfl ((by first | exact Copy_q nm bd (l := l) (.blk 0 _ rfl rfl rfl) (by omega) | exact Copy_q nm bd (l := a) (.blk _ _ rfl rfl rfl) (by omega))) ?_ | refine AL.acall (g := 63) rfl (by kernel_rfl) rfl ((by exact HW _ _ _ rfl rfl (by first | exact .inl rfl | exact .inr rfl))) ?_ | refine AL.pcall (g := 63) rfl (by kernel_rfl) rfl ((by exact HW _ _ _ rfl rfl (by first | exact .inl rfl | exact .inr rfl))) ?_) | ((with_reducible refine AL.k_alloc ?_); first | refine AL.w rfl (OW.alloc (ty := 24) (z := [.string ⟨#[]⟩, .int .i64 0, .slice none 0 0]) (by kernel_rfl) rfl) ?_) | ((with_reducible refine AL.k_store ?_); first | (refine AL.w rfl (OW.store (ty := 24) (n := 3) rfl (by conv => lhs; whnf) rfl rfl (by kernel_rfl) rfl rfl (by decide) rfl (Nat.le_of_ble_eq_true rfl) (by intro r h; cases h)) ?_)) | ((with_reducible refine AL.k_box ?_); first | (refine AL.w rfl (OW.box (by conv => lhs; whnf) (by intro r h; cases h)) ?_))); (conv => (arg 5; try tactic => exact nrm)); (conv => (arg 6; try tactic => exact nrm)))
        | (refine AL.bs rfl (fun hc => ?_) (fun hc => ?_) <;> (fail_if_success (with_reducible exact lit_no hc)) <;> (try simp only [decide_eq_true_eq, decide_eq_false_iff_not, Bool.not_true, Bool.not_false, Bool.not_eq_true', Bool.not_eq_false', Int.not_lt, Int.not_le, Classical.not_not, ne_eq] at hc) <;> first | (exfalso; first | contradiction | (first | omega | (simp at *; done) | (simp_all; done)); done) | (conv => (arg 5; try tactic => exact nrm)))
        | refine AL.nil ?_)
      | ((with_reducible refine AW.on ?_); first
        | refine AW.seq ?_
        | refine AW.skip ?_
        | refine AW.exit ?_
        | refine AW.ret ?_
        | (refine AW.block (id := 0) ?_; refine AW.unroll 1 ?_)
        | refine AW.block ?_
        | (refine AW.drawF (id := 5) 10 #[0, 1, 0, 0, 15, 31, 63, 63, 0, 383, 1023] (by kernel_rfl) (by kernel_rfl) ?_; (conv => (arg 8; simp only [List.take_succ_cons, List.take_zero])))
        | (refine AW.drawF (id := 12) 9 #[0, 0, 0, 7, 0, 0, 63, 0, 0, 511, 1023] (by kernel_rfl) (by kernel_rfl) ?_; (conv => (arg 8; simp only [List.take_succ_cons, List.take_zero])))
        | (refine AW.draw (id := 21) 9 #[0, 1, 0, 4, 0, 28, 60, 124, 255] (by kernel_rfl) (by kernel_rfl) ?_; (conv => (arg 8; simp only [List.take_succ_cons, List.take_zero])))
        | (refine AW.drawF (id := 23) 9 #[0, 1, 0, 7, 15, 31, 63, 63, 127, 511] (by kernel_rfl) (by kernel_rfl) ?_; (conv => (arg 8; simp only [List.take_succ_cons, List.take_zero])))
        | (refine AW.draw (id := 26) 22 #[0, 1, 0, 4, 12, 31, 63, 127, 0, 256, 0, 1024, 0, 4096, 12288, 28672, 64512, 130816, 261888, 524032, 255, 2097151] (by kernel_rfl) (by kernel_rfl) ?_; (conv => (arg 8; simp only [List.take_succ_cons, List.take_zero])))
        | (refine AW.region (id := 2) ?_; exfalso; first | omega | (simp at *; done) | (simp_all; done); done)
        | (refine AW.region (id := 4) ?_; exfalso; first | omega | (simp at *; done) | (simp_all; done); done)
        | (refine AW.region (id := 9) ?_; exfalso; first | omega | (simp at *; done) | (simp_all; done); done)
        | (refine AW.region (id := 11) ?_; exfalso; first | omega | (simp at *; done) | (simp_all; done); done)
        | (refine AW.region (id := 15) ?_; exfalso; first | omega | (simp at *; done) | (simp_all; done); done)
        | (refine AW.region (id := 18) ?_; exfalso; first | omega | (simp at *; done) | (simp_all; done); done)
        | (refine AW.region (id := 20) ?_; exfalso; first | omega | (simp at *; done) | (simp_all; done); done)
        | (refine AW.region (id := 22) ?_; exfalso; first | omega | (simp at *; done) | (simp_all; done); done)
        | (refine AW.region (id := 25) ?_; exfalso; first | omega | (simp at *; done) | (simp_all; done); done)
        | (refine AW.region (id := 30) ?_; exfalso; first | omega | (simp at *; done) | (simp_all; done); done)
        | refine AW.region ?_
        | (refine AW.conds rfl (fun hc => ?_) (fun hc => ?_) <;> (try simp only [decide_eq_true_eq, decide_eq_false_iff_not, Bool.not_true, Bool.not_false, Bool.not_eq_true', Bool.not_eq_false', Int.not_lt, Int.not_le, Classical.not_not, ne_eq] at hc) <;> first | (exfalso; first | contradiction | (first | omega | (simp at *; done) | (simp_all; done)); done) | skip))
      | ((with_reducible refine AD.on ?_); first
        | ((first | ((with_reducible refine AD.k_move ?_); first | (refine AD.q rfl (OQ.move (by conv => lhs; whnf)) rfl rfl rfl ?_)) | ((with_reducible refine AD.k_load ?_); first | (refine AD.q rfl (OQ.load1 (ty := 3) rfl (by kernel_rfl) (by first | (first | exact hT0 k hk | exact hT1 | exact hT2) | (conv => lhs; whnf))) rfl rfl rfl ?_) | (refine AD.q rfl (OQ.load1 (ty := 22) rfl (by kernel_rfl) (by first | (first | exact hT0 k hk | exact hT1 | exact hT2) | (conv => lhs; whnf))) rfl rfl rfl ?_)) | ((with_reducible refine AD.k_call ?_); first | refine AD.q rfl (OQ.max2 rfl rfl) rfl rfl rfl ?_ | refine AD.q rfl (OQ.lenS (xt := 22) (r := (none, 5, true)) rfl (by kernel_rfl)) rfl rfl rfl ?_ | refine AD.q rfl (OQ.min2 rfl rfl) rfl rfl rfl ?_) | ((with_reducible refine AD.k_assign ?_); first | (refine AD.q rfl (OQ.assign (by conv => lhs; whnf)) rfl rfl rfl ?_)) | ((with_reducible refine AD.k_binOp ?_); first | refine AD.q rfl (OQ.neq rfl rfl) rfl rfl rfl ?_ | refine AD.q rfl (OQ.subi rfl rfl (by omega)) rfl rfl rfl ?_ | refine AD.q rfl (OQ.sub rfl rfl) rfl rfl rfl ?_ | refine AD.q rfl (OQ.addi rfl rfl (by omega)) rfl rfl rfl ?_ | refine AD.q rfl (OQ.add rfl rfl) rfl rfl rfl ?_)); (conv => (arg 10; try tactic => exact nrm)))
        | ((first | ((with_reducible refine AD.k_fieldAddr ?_); first | refine AD.q rfl (OQ.fieldA (ty := 55) (i := 0) (n := 1) (off := 0) (g := false) rfl (by kernel_rfl) (by decide)) rfl rfl rfl ?_ | refine AD.q rfl (OQ.fieldA (ty := 24) (i := 2) (n := 1) (off := 2) (g := false) rfl (by kernel_rfl) (by decide)) rfl rfl rfl ?_) | ((with_reducible refine AD.k_indexAddr ?_); first | refine AD.q rfl (OQ.idxAddr (ty := 22) (z := 5) (g := true) rfl rfl (by kernel_rfl) (by first | omega | exact hI1.1 | exact hI1.2 | exact hI2.1 | exact hI2.2) (by first | omega | exact hI1.1 | exact hI1.2 | exact hI2.1 | exact hI2.2)) rfl rfl rfl ?_)); (conv => (arg 10; try tactic => exact nrm)))
        | (refine AD.nil ?_; (conv => (arg 4; simp only [List.drop_succ_cons, List.drop_zero, List.drop_nil])); (conv => (arg 5; try tactic => exact nrm)); (conv => (arg 6; try tactic => exact nrm))))
      | ((with_reducible refine AF.on ?_); first
        | ((first | ((with_reducible refine AF.k_move ?_); first | (refine AF.q 0 (SW.q (OQ.move (by conv => lhs; whnf)) rfl) ?_)) | ((with_reducible refine AF.k_load ?_); first | refine AF.ql rfl (SW.q (OQ.loadN (ty := 24) (n := 3) rfl (by kernel_rfl) (by kernel_rfl) (by first | (first | exact hT0 k hk | exact hT1 | exact hT2) | rfl)) rfl) ?_ | refine AF.ql rfl (SW.q (OQ.loadN (ty := 55) (n := 5) rfl (by kernel_rfl) (by kernel_rfl) (by first | (first | exact hT0 k hk | exact hT1 | exact hT2) | rfl)) rfl) ?_) | ((with_reducible refine AF.k_call ?_); first | refine AF.q 2 (SW.pcall (g := 58) rfl (by kernel_rfl) rfl ((by exact two_v hT rfl rfl rfl rfl rfl rfl rfl rfl)) rfl) ?_) | ((with_reducible refine AF.k_assign ?_); first | (refine AF.q 0 (SW.q (OQ.assign (by conv => lhs; whnf)) rfl) ?_)) | ((with_reducible refine AF.k_extract ?_); first | refine AF.q 0 (SW.q (OQ.extract rfl rfl) rfl) ?_)); (conv => (arg 9; try tactic => exact nrmF)); (conv => (arg 11; try simp only [List.nil_append, List.cons_append])))
        | ((first | ((with_reducible refine AF.k_call ?_); first | refine AF.n1 2 (SW.acall (g := 19) rfl (by kernel_rfl) rfl ((by first | exact Copy_q nm bd (l := l) (.blk 0 _ rfl rfl rfl) (by omega) | exact Copy_q nm bd (l := a) (.blk _ _ rfl rfl rfl) (by omega))) rfl) rfl ?_ | refine AF.n1 2 (SW.acall (g := 62) rfl (by kernel_rfl) rfl ((by exact HC _ _ _ rfl rfl)) rfl) rfl ?_ | refine AF.n1 2 (SW.acall (g := 65) rfl (by kernel_rfl) rfl ((by exact R1 _ _ _ rfl rfl)) rfl) rfl ?_ | refine AF.n1 2 (SW.acall (g := 66) rfl (by kernel_rfl) rfl ((by exact R2 _ _ _ rfl rfl (by first | exact .inl rfl | exact .inr rfl))) rfl) rfl ?_) | ((with_reducible refine AF.k_alloc ?_); first | refine AF.n1 0 (SW.w (OW.alloc (ty := 24) (z := [.string ⟨#[]⟩, .int .i64 0, .slice none 0 0]) (by kernel_rfl) rfl) rfl) rfl ?_) | ((with_reducible refine AF.k_store ?_); first | (refine AF.sl rfl (SW.w (OW.store (ty := 24) (n := 3) rfl (by conv => lhs; whnf) rfl rfl (by kernel_rfl) rfl rfl (by decide) rfl (Nat.le_of_ble_eq_true rfl) (by intro r h; cases h)) rfl) rfl ?_))); (conv => (arg 9; try tactic => exact nrmF)); (conv => (arg 11; try simp only [List.nil_append, List.cons_append])); (conv => (arg 10; try tactic => exact nrmF)))
        | (refine AF.nil ?_ (by kernel_rfl); (conv => (arg 4; simp only [List.drop_succ_cons, List.drop_zero, List.drop_nil]))))
      | with_reducible refine AR.s ?_
      | ((with_reducible refine AR.out ?_); first | omega | (simp at *; done) | (simp_all; done); done)
      | ((with_reducible refine FinP.on ?_); (first | refine FinP.ret (.tmp (by conv => lhs; whnf) .nil) ?_ rfl | refine FinP.end (.tmp (by conv => lhs; whnf) .nil) ?_ rfl); (try simp only [pack, List.drop, List.take]); all_goals ((first | rfl | (simp; done) | simp_all))))
/-- A correction that touches something. -/
theorem CoL_y (k : Nat) (s : St) (hk : k < l.length) (ho : Ors nm l) (h40 : l.length ≤ 40) (hoa : Ors nm a) (hob : Ors nm b) (la : a.length ≤ 40) (hb0 : l.length = b.length + 1) (hf : (fewB nm.size l.length && briefB nm.data.toList bd l) = true) (he : (orbE nm.data.toList bd l).2 = 0)
    (hRC : ∀ z, ACalls Try.prog 65 [obI nm bd 0 l, .int .i64 k, stV s] [some ⟨flatS l, false, z⟩] (obI nm bd 1 a) [some ⟨flatS l, false, z⟩, some ⟨flatS a, true, 5⟩])
    (hRW : ∀ z, z = 0 ∨ z = 5 → ACalls Try.prog 66 [obI nm bd 0 l, .int .i64 k] [some ⟨flatS l, false, z⟩] (obI nm bd 1 b) [some ⟨flatS l, false, z⟩, some ⟨flatS b, true, 5⟩])
    (hW : ((orbE nm.data.toList bd b).2 = 0 ∧ ∀ z, z = 0 ∨ z = 5 → ACalls Try.prog 63 [obI nm bd 0 l, .int .i64 k] [some ⟨flatS l, false, z⟩] (.tuple #[obI nm bd 1 b, .int .i64 0]) [some ⟨flatS l, false, z⟩, some ⟨flatS b, true, 5⟩]) ∨
      ((orbE nm.data.toList bd b).2 ≠ 0 ∧ ∀ z, z = 0 ∨ z = 5 → PCalls Try.prog 63 [obI nm bd 0 l, .int .i64 k] [some ⟨flatS l, false, z⟩] (.tuple #[ob0, .int .i64 (orbE nm.data.toList bd b).2])))
    (hC : ∀ z, ACalls Try.prog 62 [obI nm bd 0 l, .int .i64 k, stV s] [some ⟨flatS l, false, z⟩] (.tuple #[obI nm bd 1 a, .int .i64 0]) [some ⟨flatS l, false, z⟩, some ⟨flatS a, true, 5⟩]) (hea : (orbE nm.data.toList bd a).2 = 0) (ht : s.t = (at_ l k).t)
    (L : List (Int × Int)) (hne : L ≠ []) (hL : L.length ≤ 250) (hin : ∀ r ∈ L, loT l k ≤ r.1 ∧ r.2 ≤ hiT l k)
    (hT : ∀ z1 z2, ACalls Try.prog 58 [obI nm bd 0 l, obI nm bd 1 a] (two l a z1 z2) (.tuple #[rgV 2 L, .int .i64 0]) [some ⟨flatS l, false, z1⟩, some ⟨flatS a, false, z2⟩, rgB L]) :
    PCalls Try.prog 14 [obI nm bd 0 l, .int .i64 k, stV s] [some ⟨flatS l, false, 0⟩] (.bool true) := by
  have hT0 : ∀ j, j < l.length → (flatS l)[j * 5]? = some (.int .i64 (at_ l j).t) := fun j hj => flatS_get l j 0 (by omega) hj
  have hT1 : (flatS l)[(if (0 : Int) > (k : Int) - 1 then 0 else (k : Int) - 1).toNat * 5]? = some (.int .i64 (loT l k)) := by
    rw [show (if (0 : Int) > (k : Int) - 1 then 0 else (k : Int) - 1).toNat = k - 1 by split <;> omega]
    exact hT0 _ (by omega)
  have hT2 : (flatS l)[(if (l.length : Int) - 1 < (k : Int) + 1 then (l.length : Int) - 1 else (k : Int) + 1).toNat * 5]? = some (.int .i64 (hiT l k)) := by
    rw [show (if (l.length : Int) - 1 < (k : Int) + 1 then (l.length : Int) - 1 else (k : Int) + 1).toNat = if k + 1 < l.length then k + 1 else l.length - 1 by split <;> split <;> omega]
    exact hT0 _ (by split <;> omega)
  have hI1 : 0 ≤ (if (0 : Int) > (k : Int) - 1 then 0 else (k : Int) - 1) ∧ (if (0 : Int) > (k : Int) - 1 then 0 else (k : Int) - 1) < l.length := by split <;> omega
  have hI2 : 0 ≤ (if (l.length : Int) - 1 < (k : Int) + 1 then (l.length : Int) - 1 else (k : Int) + 1) ∧ (if (l.length : Int) - 1 < (k : Int) + 1 then (l.length : Int) - 1 else (k : Int) + 1) < l.length := by split <;> omega
  have hnm := ho.nm
  have H1 := fun (m : Mem) (v : Value) (hS : SlB m v l) => brief_c (nm := nm) (bd := bd) hS ho.wf (by omega) (by omega)
  rw [hf] at H1
  have H2 := fun (m : Mem) (v : Value) (hS : SlB m v l) => Err_q (bd := bd) hS ho
  rw [he] at H2
  have H3 := fun (m : Mem) (v : Value) (hS : SlB m v a) => Err_q (bd := bd) hS hoa
  have H4 := fun (m : Mem) (v : Value) (hS : SlB m v b) => Err_q (bd := bd) hS hob
  have H5 := Within_c k 0 (l.length - 1)
  rw [show rngB k 0 (l.length - 1) = true from rngB_true.2 (by omega)] at H5
  have SA := fun z1 z2 => Same_c nm bd a z1 z2 (by omega)
  have SB := fun z1 z2 => Same_c nm bd b z1 z2 (by omega)
  have R1 := fun (m : Mem) (i : Nat) (blk : Blk) (hb : m.at i = some blk) (hc : blk.cells = flatS l) => via_e hb hc (flatS_scal l) (flatS_scal a) (hRC blk.esz) (args := [obI nm bd i l, .int .i64 k, stV s]) (v := obI nm bd m.length a) rfl rfl (by simp [rn3, rn2, rn1, τn]) rfl
  have R2 := fun (m : Mem) (i : Nat) (blk : Blk) (hb : m.at i = some blk) (hc : blk.cells = flatS l) (hz : blk.esz = 0 ∨ blk.esz = 5) => via_e hb hc (flatS_scal l) (flatS_scal b) (hRW blk.esz hz) (args := [obI nm bd i l, .int .i64 k]) (v := obI nm bd m.length b) rfl rfl (by simp [rn3, rn2, rn1, τn]) rfl
  clear hRC hRW he hf
  rw [hea] at H3
  clear hea
  generalize (orbE nm.data.toList bd b).2 = eb at *
  have HW : (eb = 0 ∧ ∀ (m : Mem) (i : Nat) (blk : Blk), m.at i = some blk → blk.cells = flatS l → blk.esz = 0 ∨ blk.esz = 5 → ACalls Try.prog 63 [obI nm bd i l, .int .i64 k] m (.tuple #[obI nm bd m.length b, .int .i64 0]) (m ++ [some ⟨flatS b, true, 5⟩])) ∨
      (eb ≠ 0 ∧ ∀ (m : Mem) (i : Nat) (blk : Blk), m.at i = some blk → blk.cells = flatS l → blk.esz = 0 ∨ blk.esz = 5 → PCalls Try.prog 63 [obI nm bd i l, .int .i64 k] m (.tuple #[ob0, .int .i64 eb])) := by
    rcases hW with ⟨h0, h⟩ | ⟨h0, h⟩
    · exact .inl ⟨h0, fun m i blk hb hc hz => via_e hb hc (flatS_scal l) (flatS_scal b) (h blk.esz hz) rfl rfl (by simp [rn3, rn2, rn1, τn]) rfl⟩
    · exact .inr ⟨h0, fun m i blk hb hc hz => PCalls.via (fun _ => i) (h blk.esz hz) (lies1 hb hc) rfl rfl rfl rfl⟩
  clear hW
  have HC : ∀ (m : Mem) (i : Nat) (blk : Blk), m.at i = some blk → blk.cells = flatS l → ACalls Try.prog 62 [obI nm bd i l, .int .i64 k, stV s] m (.tuple #[obI nm bd m.length a, .int .i64 0]) (m ++ [some ⟨flatS a, true, 5⟩]) :=
    fun m i blk hb hc => via_e hb hc (flatS_scal l) (flatS_scal a) (hC blk.esz) rfl rfl (by simp [rn3, rn2, rn1, τn]) rfl
  clear hC
  have HT : ∀ (m : Mem) (i j : Nat) (b1 b2 : Blk) (h1 : m.at i = some b1) (c1 : b1.cells = flatS l) (h2 : m.at j = some b2) (c2 : b2.cells = flatS a), ACalls Try.prog 58 [obI nm bd i l, obI nm bd j a] m (.tuple #[.slice (some ⟨m.length, 0, none⟩) L.length INF, .int .i64 0]) (m ++ [some ⟨flatR L, true, 2⟩]) := fun m i j b1 b2 h1 c1 h2 c2 => by
    have := two_a hT h1 c1 h2 c2
    rwa [show rgV m.length L = .slice (some ⟨m.length, 0, none⟩) L.length INF from if_neg hne, show rgB L = some ⟨flatR L, true, 2⟩ from if_neg hne] at this
  clear hT
  have hg0 : ∀ j, j < L.length → (flatR L)[j * 2]? = some (.int .i64 (rg_ L j).1) := fun j hj => flatR_get L j 0 (by omega) hj
  have hg1 : ∀ j, j < L.length → (flatR L)[j * 2 + 1]? = some (.int .i64 (rg_ L j).2) := fun j hj => flatR_get L j 1 (by omega) hj
  have hin' : ∀ j, j < L.length → loT l k ≤ (rg_ L j).1 ∧ (rg_ L j).2 ≤ hiT l k := fun j hj => by
    have : rg_ L j ∈ L := by
      unfold rg_
      rw [List.getD_eq_getElem?_getD, List.getElem?_eq_getElem hj]
      exact List.getElem_mem hj
    exact hin _ this
  clear hin
  rcases HW with ⟨rfl, HW⟩ | ⟨heb, HW⟩
  all_goals
    refine PCalls.enterJ (t := [obI nm bd 0 l, .int .i64 k, stV s, undef, undef, undef, undef, undef, undef, undef, undef, undef, undef, undef, undef, undef, undef, undef, undef, undef, undef, undef, undef, undef, undef, undef, undef, undef, undef, undef, undef, undef, undef, undef, undef, undef, undef, undef, undef, undef, undef, undef, undef, undef, undef, undef, undef, undef, undef, undef, undef, undef, undef, undef, undef, undef, undef, undef, undef, undef, undef, undef, undef, undef, undef, undef, undef, undef, undef, undef, undef, undef, undef, undef, undef, undef, undef, undef, undef, undef, undef, undef, undef, undef, undef, undef, undef, undef, undef, undef, undef, undef, undef, undef, undef, undef, undef, undef, undef, undef, undef, undef, undef, undef, undef, undef, undef, undef, undef, undef, undef, undef, undef, undef, undef, undef, undef, undef, undef, undef, undef, undef, undef, undef, undef, undef, undef, undef, undef, undef, undef, undef, undef, undef, undef, undef, undef, undef, undef, undef, undef, undef, undef, undef, undef, undef, undef, undef, undef, undef, undef, undef, undef, undef, undef, undef, undef, undef, undef, undef, undef, undef, undef, undef, undef, undef, undef, undef, undef, undef, undef, undef, undef, undef, undef, undef, undef, undef, undef, undef, undef, undef, undef, undef, undef, undef, undef, undef, undef, undef, undef, undef, undef, undef, undef, undef]) Try.func14 rfl (ro1 _ rfl) rfl fun E hE => ?_
    repeat' (first
      | with_reducible refine Then.n ?_
      | with_reducible refine Then.r ?_
      | with_reducible refine Then.x ?_
      | with_reducible refine InB.n ?_
      | with_reducible refine InB.r ?_
      | with_reducible refine InB.hit ?_
      | with_reducible refine InB.miss (by decide) ?_
      | ((with_reducible refine AL.on ?_); first
        | (refine AL.gd rfl ?_; first | (refine AL.gskip rfl rfl ?_; (conv => (arg 5; try tactic => exact nrm))) | (refine AL.gs1 rfl rfl (fun hc => ?_) (fun hc => ?_) <;> (try simp only [decide_eq_true_eq, decide_eq_false_iff_not, Bool.not_true, Bool.not_false, Bool.not_eq_true', Bool.not_eq_false', Int.not_lt, Int.not_le, Classical.not_not, ne_eq] at hc) <;> first | (exfalso; first | contradiction | (first | omega | (simp at *; done) | (simp_all; done)); done) | (conv => (arg 5; try tactic => exact nrm))) | (refine AL.gs0 rfl rfl (fun hc => ?_) (fun hc => ?_) <;> (try simp only [decide_eq_true_eq, decide_eq_false_iff_not, Bool.not_true, Bool.not_false, Bool.not_eq_true', Bool.not_eq_false', Int.not_lt, Int.not_le, Classical.not_not, ne_eq] at hc) <;> first | (exfalso; first | contradiction | (first | omega | (simp at *; done) | (simp_all; done)); done) | (conv => (arg 5; try tactic => exact nrm))))
        | ((first | ((with_reducible refine AL.k_move ?_); first | (refine AL.q rfl (OQ.move (by conv => lhs; whnf)) ?_)) | ((with_reducible refine AL.k_load ?_); first | refine AL.q rfl (OQ.loadN (ty := 24) (n := 3) rfl (by kernel_rfl) (by kernel_rfl) (by first | (first | exact hT0 k hk | exact hT1 | exact hT2 | exact hg0 _ hj | exact hg1 _ hj) | rfl)) ?_ | (refine AL.q rfl (OQ.load1 (ty := 22) rfl (by kernel_rfl) (by first | (first | exact hT0 k hk | exact hT1 | exact hT2 | exact hg0 _ hj | exact hg1 _ hj) | (conv => lhs; whnf))) ?_) | (refine AL.q rfl (OQ.load1 (ty := 3) rfl (by kernel_rfl) (by first | (first | exact hT0 k hk | exact hT1 | exact hT2 | exact hg0 _ hj | exact hg1 _ hj) | (conv => lhs; whnf))) ?_)) | ((with_reducible refine AL.k_call ?_); first | refine AL.q rfl (OQ.lenS (xt := 22) (r := (none, 5, true)) rfl (by kernel_rfl)) ?_ | refine AL.q rfl (OQ.lenS (xt := 29) (r := (none, 2, true)) rfl (by kernel_rfl)) ?_) | ((with_reducible refine AL.k_assign ?_); first | (refine AL.q rfl (OQ.assign (by conv => lhs; whnf)) ?_)) | ((with_reducible refine AL.k_binOp ?_); first | refine AL.q rfl (OQ.eql rfl rfl) ?_ | refine AL.q rfl (OQ.subi rfl rfl (by omega)) ?_ | refine AL.q rfl (OQ.sub rfl rfl) ?_ | refine AL.q rfl (OQ.neq rfl rfl) ?_ | refine AL.q rfl (OQ.gtr rfl rfl) ?_ | refine AL.q rfl (OQ.lss rfl rfl) ?_ | refine AL.q rfl (OQ.addi rfl rfl (by omega)) ?_ | refine AL.q rfl (OQ.add rfl rfl) ?_) | ((with_reducible refine AL.k_pick ?_); first | (refine AL.q rfl (OQ.pickT rfl (by with_reducible rfl) (by conv => lhs; whnf)) ?_) | (refine AL.q rfl (OQ.pickF rfl (by with_reducible rfl) (by conv => lhs; whnf)) ?_)) | ((with_reducible refine AL.k_unOp ?_); first | refine AL.q rfl (OQ.not rfl) ?_) | ((with_reducible refine AL.k_extract ?_); first | refine AL.q rfl (OQ.extract rfl rfl) ?_)); (conv => (arg 5; try tactic => exact nrm)))
        | ((first | ((with_reducible refine AL.k_call ?_); first | refine AL.pcall (g := 16) rfl (by kernel_rfl) rfl (awake_q _) ?_ | refine AL.pcall (g := 17) rfl (by kernel_rfl) rfl (H1 _ _ (.blk 0 _ rfl rfl rfl)) ?_ | refine AL.pcall (g := 20) rfl (by kernel_rfl) rfl ((by first | exact H2 _ _ (.blk 0 _ rfl rfl rfl) | exact H3 _ _ (.blk _ _ rfl rfl rfl) | exact H4 _ _ (.blk _ _ rfl rfl rfl))) ?_ | refine AL.pcall (g := 22) rfl (by kernel_rfl) rfl (H5 _) ?_ | refine AL.pcall (g := 64) rfl (by kernel_rfl) rfl ((by first | exact PCalls.any Same_z rfl rfl _ | exact two_v SA rfl rfl rfl rfl rfl rfl rfl rfl | exact two_v SB rfl rfl rfl rfl rfl rfl rfl rfl)) ?_) | ((with_reducible refine AL.k_fieldAddr ?_); first | refine AL.q rfl (OQ.fieldA (ty := 24) (i := 2) (n := 1) (off := 2) (g := false) rfl (by kernel_rfl) (by decide)) ?_ | refine AL.q rfl (OQ.fieldA (ty := 44) (i := 0) (n := 1) (off := 0) (g := false) rfl (by kernel_rfl) (by decide)) ?_ | refine AL.q rfl (OQ.fieldA (ty := 44) (i := 1) (n := 1) (off := 1) (g := false) rfl (by kernel_rfl) (by decide)) ?_) | ((with_reducible refine AL.k_indexAddr ?_); first | refine AL.q rfl (OQ.idxAddr (ty := 29) (z := 2) (g := true) rfl rfl (by kernel_rfl) (by first | omega | exact hI1.1 | exact hI1.2 | exact hI2.1 | exact hI2.2) (by first | omega | exact hI1.1 | exact hI1.2 | exact hI2.1 | exact hI2.2)) ?_) | ((with_reducible refine AL.k_build ?_); first | refine AL.q rfl (OQ.buildS (ty := 24) (zs := [.string ⟨#[]⟩, .int .i64 0, .slice none 0 0]) (pls := [(0, 1), (1, 1), (2, 1)]) (by kernel_rfl) rfl (by kernel_rfl) rfl rfl rfl) ?_)); (conv => (arg 5; try tactic => exact nrm)))
        | ((first | ((with_reducible refine AL.k_call ?_); first | refine AL.acall (g := 19) rfl (by kernel_rfl) rfl ((by first | exact Copy_q nm bd (l := l) (.blk 0 _ rfl rfl rfl) (by omega) | exact Copy_q nm bd (l := a) (.blk _ _ rfl rfl rfl) (by omega))) ?_ | refine AL.acall (g := 63) rfl (by kernel_rfl) rfl ((by exact HW _ _ _ rfl rfl (by first | exact .inl rfl | exact .inr rfl))) ?_ | refine AL.pcall (g := 63) rfl (by kernel_rfl) rfl ((by exact HW _ _ _ rfl rfl (by first | exact .inl rfl | exact .inr rfl))) ?_) | ((with_reducible refine AL.k_alloc ?_); first | refine AL.w rfl (OW.alloc (ty := 24) (z := [.string ⟨#[]⟩, .int .i64 0, .slice none 0 0]) (by kernel_rfl) rfl) ?_) | ((with_reducible refine AL.k_store ?_); first | (refine AL.w rfl (OW.store (ty := 24) (n := 3) rfl (by conv => lhs; whnf) rfl rfl (by kernel_rfl) rfl rfl (by decide) rfl (Nat.le_of_ble_eq_true rfl) (by intro r h; cases h)) ?_)) | ((with_reducible refine AL.k_box ?_); first | (refine AL.w rfl (OW.box (by conv => lhs; whnf) (by intro r h; cases h)) ?_))); (conv => (arg 5; try tactic => exact nrm)); (conv => (arg 6; try tactic => exact nrm)))
        | (refine AL.bs rfl (fun hc => ?_) (fun hc => ?_) <;> (fail_if_success (with_reducible exact lit_no hc)) <;> (try simp only [decide_eq_true_eq, decide_eq_false_iff_not, Bool.not_true, Bool.not_false, Bool.not_eq_true', Bool.not_eq_false', Int.not_lt, Int.not_le, Classical.not_not, ne_eq] at hc) <;> first | (exfalso; first | contradiction | (first | omega | (simp at *; done) | (simp_all; done)); done) | (conv => (arg 5; try tactic => exact nrm)))
        | refine AL.nil ?_)
      | ((with_reducible refine AW.on ?_); first
        | refine AW.seq ?_
        | refine AW.skip ?_
        | refine AW.exit ?_
        | refine AW.ret ?_
        | ((refine AW.block (id := 0) ?_); (refine AW.wk (Wk.forget [false, false, false, false, false, false, false, false, false, false, false, false, false, false, false, false, true, false, true, true, true, false, false, false, false, false, false, false, false, false, false, false, false, false, false, false, false, false, false, false, false, false, false, false, false, false, false, false, false, false, false, false, false, false, false, false, false, false, false, false, false, false, false, false, false, false, false, false, false, false, false, false, false, false, false, false, false, false, false, false, false, false, false, false, false, false, false, false, false, false, false, false, false, false, false, false, false, false, false, false, false, false, false, false, false, false, false, false, false, false, false, false, false, false, false, false, false, false, false, false, false, false, false, false, false, false, false, false, false, false, false, false, false, false, false, false, false, false, false, false, false, false, false, false, false, false, false, false, false, false, false, false, false, false, false, false, false, false, false, false, false, false, false, false, false, false, false, false, false, false, false, false, false, false, false, false, false, false, false, false, false, false, false, false, false, false, false, false, false, false, false, false, false, false, false, false] rfl) ?_); (conv => (arg 4; simp only [fgt, if_true, if_false, Bool.false_eq_true])); (first | (refine AW.wk (t' := [junk, junk, junk, junk, junk, junk, junk, junk, junk, junk, junk, junk, junk, junk, junk, junk, .slice (some ⟨1, 0, none⟩) L.length INF, junk, .int .i64 (loT l k), .int .i64 (hiT l k), .int .i64 (0), junk, junk, junk, junk, junk, junk, junk, junk, junk, junk, junk, junk, junk, junk, junk, junk, junk, junk, junk, junk, junk, junk, junk, junk, junk, junk, junk, junk, junk, junk, junk, junk, junk, junk, junk, junk, junk, junk, junk, junk, junk, junk, junk, junk, junk, junk, junk, junk, junk, junk, junk, junk, junk, junk, junk, junk, junk, junk, junk, junk, junk, junk, junk, junk, junk, junk, junk, junk, junk, junk, junk, junk, junk, junk, junk, junk, junk, junk, junk, junk, junk, junk, junk, junk, junk, junk, junk, junk, junk, junk, junk, junk, junk, junk, junk, junk, junk, junk, junk, junk, junk, junk, junk, junk, junk, junk, junk, junk, junk, junk, junk, junk, junk, junk, junk, junk, junk, junk, junk, junk, junk, junk, junk, junk, junk, junk, junk, junk, junk, junk, junk, junk, junk, junk, junk, junk, junk, junk, junk, junk, junk, junk, junk, junk, junk, junk, junk, junk, junk, junk, junk, junk, junk, junk, junk, junk, junk, junk, junk, junk, junk, junk, junk, junk, junk, junk, junk, junk, junk, junk, junk, junk, junk, junk, junk]) (m' := [some ⟨flatS l, false, 0⟩, some ⟨flatR L, true, 2⟩]) (Wk.keep 1 [15] (Nat.le_of_eq hE) rfl rfl (by repeat (first | exact RenT.nil | refine RenT.junk ?_ | refine RenT.val (by first | rfl | with_reducible assumption | (simp only [rn3, rn2, rn1, kσ]; done)) (by first | rfl | assumption | (simp [ok3, ok2, ok1]; done)) ?_)) ⟨⟨_, rfl, rfl, rfl, .inl ⟨rfl, flatS_scal l⟩⟩, ⟨_, rfl, rfl, rfl, .inl ⟨rfl, flatR_scal L⟩⟩, trivial⟩) ?_) | (refine AW.wk (t' := [junk, junk, junk, junk, junk, junk, junk, junk, junk, junk, junk, junk, junk, junk, junk, junk, .slice (some ⟨1, 0, none⟩) L.length INF, junk, .int .i64 (loT l k), .int .i64 (hiT l k), .int .i64 (0), junk, junk, junk, junk, junk, junk, junk, junk, junk, junk, junk, junk, junk, junk, junk, junk, junk, junk, junk, junk, junk, junk, junk, junk, junk, junk, junk, junk, junk, junk, junk, junk, junk, junk, junk, junk, junk, junk, junk, junk, junk, junk, junk, junk, junk, junk, junk, junk, junk, junk, junk, junk, junk, junk, junk, junk, junk, junk, junk, junk, junk, junk, junk, junk, junk, junk, junk, junk, junk, junk, junk, junk, junk, junk, junk, junk, junk, junk, junk, junk, junk, junk, junk, junk, junk, junk, junk, junk, junk, junk, junk, junk, junk, junk, junk, junk, junk, junk, junk, junk, junk, junk, junk, junk, junk, junk, junk, junk, junk, junk, junk, junk, junk, junk, junk, junk, junk, junk, junk, junk, junk, junk, junk, junk, junk, junk, junk, junk, junk, junk, junk, junk, junk, junk, junk, junk, junk, junk, junk, junk, junk, junk, junk, junk, junk, junk, junk, junk, junk, junk, junk, junk, junk, junk, junk, junk, junk, junk, junk, junk, junk, junk, junk, junk, junk, junk, junk, junk, junk, junk, junk, junk, junk, junk, junk]) (m' := [some ⟨flatS l, false, 0⟩, some ⟨flatR L, true, 2⟩]) (Wk.keep 1 [14] (Nat.le_of_eq hE) rfl rfl (by repeat (first | exact RenT.nil | refine RenT.junk ?_ | refine RenT.val (by first | rfl | with_reducible assumption | (simp only [rn3, rn2, rn1, kσ]; done)) (by first | rfl | assumption | (simp [ok3, ok2, ok1]; done)) ?_)) ⟨⟨_, rfl, rfl, rfl, .inl ⟨rfl, flatS_scal l⟩⟩, ⟨_, rfl, rfl, rfl, .inl ⟨rfl, flatR_scal L⟩⟩, trivial⟩) ?_)); (refine AW.loop (fun n t' m => ∃ j : Nat, n = L.length - j ∧ j ≤ L.length ∧ t' = [junk, junk, junk, junk, junk, junk, junk, junk, junk, junk, junk, junk, junk, junk, junk, junk, .slice (some ⟨1, 0, none⟩) L.length INF, junk, .int .i64 (loT l k), .int .i64 (hiT l k), .int .i64 (j), junk, junk, junk, junk, junk, junk, junk, junk, junk, junk, junk, junk, junk, junk, junk, junk, junk, junk, junk, junk, junk, junk, junk, junk, junk, junk, junk, junk, junk, junk, junk, junk, junk, junk, junk, junk, junk, junk, junk, junk, junk, junk, junk, junk, junk, junk, junk, junk, junk, junk, junk, junk, junk, junk, junk, junk, junk, junk, junk, junk, junk, junk, junk, junk, junk, junk, junk, junk, junk, junk, junk, junk, junk, junk, junk, junk, junk, junk, junk, junk, junk, junk, junk, junk, junk, junk, junk, junk, junk, junk, junk, junk, junk, junk, junk, junk, junk, junk, junk, junk, junk, junk, junk, junk, junk, junk, junk, junk, junk, junk, junk, junk, junk, junk, junk, junk, junk, junk, junk, junk, junk, junk, junk, junk, junk, junk, junk, junk, junk, junk, junk, junk, junk, junk, junk, junk, junk, junk, junk, junk, junk, junk, junk, junk, junk, junk, junk, junk, junk, junk, junk, junk, junk, junk, junk, junk, junk, junk, junk, junk, junk, junk, junk, junk, junk, junk, junk, junk, junk, junk, junk, junk, junk, junk, junk] ∧ m = [some ⟨flatS l, false, 0⟩, some ⟨flatR L, true, 2⟩]) (L.length) (by exact ⟨0, rfl, Nat.zero_le _, rfl, rfl⟩) ?_); (rintro n t' m ⟨j, rfl, hj', rfl, rfl⟩))
        | refine AW.block ?_
        | (refine AW.drawF (id := 5) 10 #[0, 1, 0, 0, 15, 31, 63, 63, 0, 383, 1023] (by kernel_rfl) (by kernel_rfl) ?_; (conv => (arg 8; simp only [List.take_succ_cons, List.take_zero])))
        | (refine AW.drawF (id := 12) 9 #[0, 0, 0, 7, 0, 0, 63, 0, 0, 511, 1023] (by kernel_rfl) (by kernel_rfl) ?_; (conv => (arg 8; simp only [List.take_succ_cons, List.take_zero])))
        | (refine AW.draw (id := 21) 9 #[0, 1, 0, 4, 0, 28, 60, 124, 255] (by kernel_rfl) (by kernel_rfl) ?_; (conv => (arg 8; simp only [List.take_succ_cons, List.take_zero])))
        | (refine AW.drawF (id := 23) 9 #[0, 1, 0, 7, 15, 31, 63, 63, 127, 511] (by kernel_rfl) (by kernel_rfl) ?_; (conv => (arg 8; simp only [List.take_succ_cons, List.take_zero])))
        | (refine AW.draw (id := 26) 22 #[0, 1, 0, 4, 12, 31, 63, 127, 0, 256, 0, 1024, 0, 4096, 12288, 28672, 64512, 130816, 261888, 524032, 255, 2097151] (by kernel_rfl) (by kernel_rfl) ?_; (conv => (arg 8; simp only [List.take_succ_cons, List.take_zero])))
        | (refine AW.region (id := 2) ?_; exfalso; first | omega | (simp at *; done) | (simp_all; done); done)
        | (refine AW.region (id := 4) ?_; exfalso; first | omega | (simp at *; done) | (simp_all; done); done)
        | (refine AW.region (id := 9) ?_; exfalso; first | omega | (simp at *; done) | (simp_all; done); done)
        | (refine AW.region (id := 11) ?_; exfalso; first | omega | (simp at *; done) | (simp_all; done); done)
        | (refine AW.region (id := 15) ?_; exfalso; first | omega | (simp at *; done) | (simp_all; done); done)
        | (refine AW.region (id := 18) ?_; exfalso; first | omega | (simp at *; done) | (simp_all; done); done)
        | (refine AW.region (id := 20) ?_; exfalso; first | omega | (simp at *; done) | (simp_all; done); done)
        | (refine AW.region (id := 22) ?_; exfalso; first | omega | (simp at *; done) | (simp_all; done); done)
        | (refine AW.region (id := 25) ?_; exfalso; first | omega | (simp at *; done) | (simp_all; done); done)
        | (refine AW.region (id := 30) ?_; (have hj : j < L.length := by omega); all_goals (have hjj := hin' j hj))
        | (refine AW.region (id := 31) ?_; exfalso; first | omega | (simp at *; done) | (simp_all; done); done)
        | refine AW.region ?_
        | (refine AW.conds rfl (fun hc => ?_) (fun hc => ?_) <;> (try simp only [decide_eq_true_eq, decide_eq_false_iff_not, Bool.not_true, Bool.not_false, Bool.not_eq_true', Bool.not_eq_false', Int.not_lt, Int.not_le, Classical.not_not, ne_eq] at hc) <;> first | (exfalso; first | contradiction | (first | omega | (simp at *; done) | (simp_all; done)); done) | skip))
      | ((with_reducible refine AD.on ?_); first
        | ((first | ((with_reducible refine AD.k_move ?_); first | (refine AD.q rfl (OQ.move (by conv => lhs; whnf)) rfl rfl rfl ?_)) | ((with_reducible refine AD.k_load ?_); first | (refine AD.q rfl (OQ.load1 (ty := 3) rfl (by kernel_rfl) (by first | (first | exact hT0 k hk | exact hT1 | exact hT2 | exact hg0 _ hj | exact hg1 _ hj) | (conv => lhs; whnf))) rfl rfl rfl ?_) | (refine AD.q rfl (OQ.load1 (ty := 22) rfl (by kernel_rfl) (by first | (first | exact hT0 k hk | exact hT1 | exact hT2 | exact hg0 _ hj | exact hg1 _ hj) | (conv => lhs; whnf))) rfl rfl rfl ?_)) | ((with_reducible refine AD.k_call ?_); first | refine AD.q rfl (OQ.max2 rfl rfl) rfl rfl rfl ?_ | refine AD.q rfl (OQ.lenS (xt := 22) (r := (none, 5, true)) rfl (by kernel_rfl)) rfl rfl rfl ?_ | refine AD.q rfl (OQ.min2 rfl rfl) rfl rfl rfl ?_) | ((with_reducible refine AD.k_assign ?_); first | (refine AD.q rfl (OQ.assign (by conv => lhs; whnf)) rfl rfl rfl ?_)) | ((with_reducible refine AD.k_binOp ?_); first | refine AD.q rfl (OQ.neq rfl rfl) rfl rfl rfl ?_ | refine AD.q rfl (OQ.subi rfl rfl (by omega)) rfl rfl rfl ?_ | refine AD.q rfl (OQ.sub rfl rfl) rfl rfl rfl ?_ | refine AD.q rfl (OQ.addi rfl rfl (by omega)) rfl rfl rfl ?_ | refine AD.q rfl (OQ.add rfl rfl) rfl rfl rfl ?_)); (conv => (arg 10; try tactic => exact nrm)))
        | ((first | ((with_reducible refine AD.k_fieldAddr ?_); first | refine AD.q rfl (OQ.fieldA (ty := 55) (i := 0) (n := 1) (off := 0) (g := false) rfl (by kernel_rfl) (by decide)) rfl rfl rfl ?_ | refine AD.q rfl (OQ.fieldA (ty := 24) (i := 2) (n := 1) (off := 2) (g := false) rfl (by kernel_rfl) (by decide)) rfl rfl rfl ?_) | ((with_reducible refine AD.k_indexAddr ?_); first | refine AD.q rfl (OQ.idxAddr (ty := 22) (z := 5) (g := true) rfl rfl (by kernel_rfl) (by first | omega | exact hI1.1 | exact hI1.2 | exact hI2.1 | exact hI2.2) (by first | omega | exact hI1.1 | exact hI1.2 | exact hI2.1 | exact hI2.2)) rfl rfl rfl ?_)); (conv => (arg 10; try tactic => exact nrm)))
        | (refine AD.nil ?_; (conv => (arg 4; simp only [List.drop_succ_cons, List.drop_zero, List.drop_nil])); (conv => (arg 5; try tactic => exact nrm)); (conv => (arg 6; try tactic => exact nrm))))
      | ((with_reducible refine AF.on ?_); first
        | ((first | ((with_reducible refine AF.k_move ?_); first | (refine AF.q 0 (SW.q (OQ.move (by conv => lhs; whnf)) rfl) ?_)) | ((with_reducible refine AF.k_load ?_); first | refine AF.ql rfl (SW.q (OQ.loadN (ty := 24) (n := 3) rfl (by kernel_rfl) (by kernel_rfl) (by first | (first | exact hT0 k hk | exact hT1 | exact hT2 | exact hg0 _ hj | exact hg1 _ hj) | rfl)) rfl) ?_ | refine AF.ql rfl (SW.q (OQ.loadN (ty := 55) (n := 5) rfl (by kernel_rfl) (by kernel_rfl) (by first | (first | exact hT0 k hk | exact hT1 | exact hT2 | exact hg0 _ hj | exact hg1 _ hj) | rfl)) rfl) ?_) | ((with_reducible refine AF.k_assign ?_); first | (refine AF.q 0 (SW.q (OQ.assign (by conv => lhs; whnf)) rfl) ?_)) | ((with_reducible refine AF.k_extract ?_); first | refine AF.q 0 (SW.q (OQ.extract rfl rfl) rfl) ?_)); (conv => (arg 9; try tactic => exact nrmF)); (conv => (arg 11; try simp only [List.nil_append, List.cons_append])))
        | ((first | ((with_reducible refine AF.k_call ?_); first | refine AF.n1 2 (SW.acall (g := 19) rfl (by kernel_rfl) rfl ((by first | exact Copy_q nm bd (l := l) (.blk 0 _ rfl rfl rfl) (by omega) | exact Copy_q nm bd (l := a) (.blk _ _ rfl rfl rfl) (by omega))) rfl) rfl ?_ | refine AF.n1 2 (SW.acall (g := 62) rfl (by kernel_rfl) rfl ((by exact HC _ _ _ rfl rfl)) rfl) rfl ?_ | refine AF.n1 2 (SW.acall (g := 65) rfl (by kernel_rfl) rfl ((by exact R1 _ _ _ rfl rfl)) rfl) rfl ?_ | refine AF.n1 2 (SW.acall (g := 66) rfl (by kernel_rfl) rfl ((by exact R2 _ _ _ rfl rfl (by first | exact .inl rfl | exact .inr rfl))) rfl) rfl ?_ | refine AF.n1 2 (SW.acall (g := 58) rfl (by kernel_rfl) rfl ((by exact HT _ _ _ _ _ rfl rfl rfl rfl)) rfl) rfl ?_) | ((with_reducible refine AF.k_alloc ?_); first | refine AF.n1 0 (SW.w (OW.alloc (ty := 24) (z := [.string ⟨#[]⟩, .int .i64 0, .slice none 0 0]) (by kernel_rfl) rfl) rfl) rfl ?_) | ((with_reducible refine AF.k_store ?_); first | (refine AF.sl rfl (SW.w (OW.store (ty := 24) (n := 3) rfl (by conv => lhs; whnf) rfl rfl (by kernel_rfl) rfl rfl (by decide) rfl (Nat.le_of_ble_eq_true rfl) (by intro r h; cases h)) rfl) rfl ?_))); (conv => (arg 9; try tactic => exact nrmF)); (conv => (arg 11; try simp only [List.nil_append, List.cons_append])); (conv => (arg 10; try tactic => exact nrmF)))
        | (refine AF.nil ?_ (by kernel_rfl); (conv => (arg 4; simp only [List.drop_succ_cons, List.drop_zero, List.drop_nil]))))
      | ((with_reducible refine ex_on ?_); exact ⟨L.length - (j + 1), _, _, by omega, Wk.forget [false, false, false, false, false, false, false, false, false, false, false, false, false, false, false, false, true, false, true, true, true, false, false, false, false, false, false, false, false, false, false, false, false, false, false, false, false, false, false, false, false, false, false, false, false, false, false, false, false, false, false, false, false, false, false, false, false, false, false, false, false, false, false, false, false, false, false, false, false, false, false, false, false, false, false, false, false, false, false, false, false, false, false, false, false, false, false, false, false, false, false, false, false, false, false, false, false, false, false, false, false, false, false, false, false, false, false, false, false, false, false, false, false, false, false, false, false, false, false, false, false, false, false, false, false, false, false, false, false, false, false, false, false, false, false, false, false, false, false, false, false, false, false, false, false, false, false, false, false, false, false, false, false, false, false, false, false, false, false, false, false, false, false, false, false, false, false, false, false, false, false, false, false, false, false, false, false, false, false, false, false, false, false, false, false, false, false, false, false, false, false, false, false, false, false, false] rfl, j + 1, rfl, by omega, rfl, rfl⟩)
      | ((with_reducible refine FinJ.on ?_); first | exact FinJ.ret (.tmp (by conv => lhs; whnf) .nil) (jle_flat rfl) | exact FinJ.end (.tmp (by conv => lhs; whnf) .nil) (jle_flat rfl)))
end
end Go.Proofs.Ythpjhpfebjjanaa
end

section
namespace Go.Proofs.Ythpjhpfebjjanaa
open Go.ChangeShapes Go.WideShapes Go.ChangeAt Go Go.RowKit Go.Ob Go.Ab Go.Ls
set_option maxRecDepth 100000
theorem cells_U : Try.prog.cellsOf 55 = 5 := by kernel_rfl
theorem ints_U : intsT Try.prog 4 55 = true := by kernel_rfl
set_option maxRecDepth 100000 in
theorem open_U {H : Type} {enc : TypeId × Value → H} {w : World} {base : Nat} {spare : Nat → Bool} {held : Bool} {r : Reach} {b0 : Nat} {v : Value} {d : DataW H} {p : List MemPlace} (hv : Value.okWide Try.prog w r b0 55 v) (h : DataW.Trod enc Try.prog w base spare held 55 v d p) :
    ∃ x0 x1 x2 x3 x4 : Int, v = .agg #[.int .i64 x0, .int .i64 x1, .int .i64 x2, .int .i64 x3, .int .i64 x4] ∧ (-9223372036854775808 ≤ x0 ∧ x0 ≤ 9223372036854775807) ∧ (-9223372036854775808 ≤ x1 ∧ x1 ≤ 9223372036854775807) ∧ (-9223372036854775808 ≤ x2 ∧ x2 ≤ 9223372036854775807) ∧ (-9223372036854775808 ≤ x3 ∧ x3 ≤ 9223372036854775807) ∧ (-9223372036854775808 ≤ x4 ∧ x4 ≤ 9223372036854775807) := by
  obtain ⟨cs, rfl, hsz⟩ := okWide_struct Try.underlying55 hv
  obtain ⟨l⟩ := cs
  obtain ⟨fuel, hf⟩ := h
  have hi := ints_of 4 _ _ _ _ ints_U hf
  match l, hsz.trans cells_U, hi with
  | [c0, c1, c2, c3, c4], _, hi =>
    obtain ⟨x0, rfl, hx0⟩ := hi c0 (by simp [Value.cells])
    obtain ⟨x1, rfl, hx1⟩ := hi c1 (by simp [Value.cells])
    obtain ⟨x2, rfl, hx2⟩ := hi c2 (by simp [Value.cells])
    obtain ⟨x3, rfl, hx3⟩ := hi c3 (by simp [Value.cells])
    obtain ⟨x4, rfl, hx4⟩ := hi c4 (by simp [Value.cells])
    exact ⟨x0, x1, x2, x3, x4, rfl, wf_bd hx0, wf_bd hx1, wf_bd hx2, wf_bd hx3, wf_bd hx4⟩
theorem wf_of {l : List St} {P : St → Prop} (h : ∀ x ∈ l, P x) (k : Nat) (hk : k < l.length) : P (at_ l k) := by
  unfold at_
  rw [List.getD_eq_getElem?_getD, List.getElem?_eq_getElem hk]
  exact h _ (List.getElem_mem hk)
theorem wf_to {l : List St} {P : St → Prop} (h : ∀ k, k < l.length → P (at_ l k)) : ∀ x ∈ l, P x := fun x hx => by
  obtain ⟨k, hk, rfl⟩ := List.getElem_of_mem hx
  have := h k hk
  unfold at_ at this
  rw [List.getD_eq_getElem?_getD, List.getElem?_eq_getElem hk] at this
  exact this
def wfP (x : St) : Prop := -9223372036854775808 ≤ x.t ∧ x.t ≤ 9223372036854775807
theorem ors_set {nm : ByteArray} {l : List St} {k : Nat} {s : St} (ho : Ors nm l) (hs : -9223372036854775808 ≤ s.t ∧ s.t ≤ 9223372036854775807) : Ors nm (l.set k s) :=
  ⟨ho.nm, wf_of (P := wfP) fun x hx => by
    rcases List.mem_or_eq_of_mem_set hx with h | rfl
    · exact wf_to (P := wfP) ho.wf x h
    · exact hs, by rw [List.length_set]; exact ho.len⟩
theorem ors_out {nm : ByteArray} {l : List St} {k : Nat} (ho : Ors nm l) (hk : k < l.length) : Ors nm (outL l k) :=
  ⟨ho.nm, wf_of (P := wfP) fun x hx => by
    unfold outL at hx
    rcases List.mem_append.1 hx with h | h
    · exact wf_to (P := wfP) ho.wf x (List.mem_of_mem_take h)
    · exact wf_to (P := wfP) ho.wf x (List.mem_of_mem_drop h), by have := ho.len; rw [outL_len l k hk]; omega⟩
end Go.Proofs.Ythpjhpfebjjanaa
namespace Go.Proofs.Ythpjhpfebjjanaa.OrbitCorrects
open Go.ChangeShapes Go.WideShapes Go.ChangeAt Go Go.RowKit Go.Ob Go.Ab Go.Proofs.Ythpjhpfebjjanaa
set_option maxRecDepth 100000
theorem walk (nm : ByteArray) (bd : Int) (a : Option Addr) (l : List St) (cap : Nat) (t : Int) (x0 x1 x2 x3 x4 : Int) (w : World) (hnm : nm.size ≤ maxLen) (hc : l.length ≤ cap) (hm : cap ≤ maxLen) (hS : SlSts w a l) (hz : a = none → cap = 0)
    (hx : -9223372036854775808 ≤ x0 ∧ x0 ≤ 9223372036854775807) :
    Calls Try.prog 14 #[obV nm bd a l.length cap, .int .i64 t, .agg #[.int .i64 x0, .int .i64 x1, .int .i64 x2, .int .i64 x3, .int .i64 x4]] w fun e w' => e = .returned (.bool true) ∧ Below w.heap.size w w' := by
  simp only [maxLen] at hnm hm
  obtain ⟨s, hs⟩ : ∃ s : St, s = ⟨x0, x1, x2, x3, x4⟩ := ⟨_, rfl⟩
  have hst : s.t = x0 := by rw [hs]
  refine glue1 (us := [.int .i64 t, .agg #[.int .i64 x0, .int .i64 x1, .int .i64 x2, .int .i64 x3, .int .i64 x4]]) rfl hS hc hz ?_
  rw [show Value.agg #[.int .i64 x0, .int .i64 x1, .int .i64 x2, .int .i64 x3, .int .i64 x4] = stV s by rw [hs]]
  rw [← hst] at hx
  clear hs hst
  cases hf : (fewB nm.size l.length && briefB nm.data.toList bd l) with
  | false => exact CoL_no t s _ hS.wf (by omega) (by omega) hf
  | true =>
    have hg := hf
    rw [Bool.and_eq_true] at hg
    obtain ⟨k1, k2⟩ := fewB_spec hg.1
    have ho : Ors nm l := ⟨by omega, hS.wf, by omega⟩
    by_cases he : (orbE nm.data.toList bd l).2 = 0
    · have hR := (orbE_right he).1
      have h2 := hR.n2
      have h40 := hR.n40
      have hl : l ≠ [] := fun h => by rw [h] at h2; simp at h2
      rw [show va 0 l a.isNone = .slice (some ⟨0, 0, none⟩) l.length INF by unfold va; rw [if_neg hl], show [bl l] = [some ⟨flatS l, false, 0⟩] by unfold bl; rw [if_neg hl]]
      have hb : lastT l - frstT l ≤ 200 := by
        rcases of_decide_eq_true hg.2 with h | h
        · exact absurd he h
        · exact h
      cases hk : rngB t 0 (l.length - 1) with
      | false => exact CoL_6 t s ho hR hf he hk
      | true =>
        rw [rngB_true] at hk
        obtain ⟨k, rfl⟩ : ∃ k : Nat, t = k := ⟨t.toNat, by omega⟩
        have hk' : k < l.length := by omega
        have hoa : Ors nm (l.set k s) := ors_set ho hx
        have hob : Ors nm (outL l k) := ors_out ho hk'
        have la : (l.set k s).length ≤ 40 := by rw [List.length_set]; exact h40
        have lb : l.length = (outL l k).length + 1 := by rw [outL_len l k hk']; omega
        have hRC := fun z => rCorrected_c nm bd l z k s hk' (by omega)
        have hRW := fun z hz => rWithout_c nm bd l z hz k hk' (by omega)
        have hW : ((orbE nm.data.toList bd (outL l k)).2 = 0 ∧ ∀ z, z = 0 ∨ z = 5 → ACalls Try.prog 63 [obI nm bd 0 l, .int .i64 k] [some ⟨flatS l, false, z⟩] (.tuple #[obI nm bd 1 (outL l k), .int .i64 0]) [some ⟨flatS l, false, z⟩, some ⟨flatS (outL l k), true, 5⟩]) ∨
            ((orbE nm.data.toList bd (outL l k)).2 ≠ 0 ∧ ∀ z, z = 0 ∨ z = 5 → PCalls Try.prog 63 [obI nm bd 0 l, .int .i64 k] [some ⟨flatS l, false, z⟩] (.tuple #[ob0, .int .i64 (orbE nm.data.toList bd (outL l k)).2])) := by
          by_cases heb : (orbE nm.data.toList bd (outL l k)).2 = 0
          · exact .inl ⟨heb, fun z hz => Without_0c l z hz hR ho he k hk' hob heb⟩
          · exact .inr ⟨heb, fun z hz => Without_xc l z hz hR ho he k hk' hob _ rfl heb⟩
        by_cases hea : (orbE nm.data.toList bd (l.set k s)).2 = 0
        · have hRa := (orbE_right hea).1
          have hC := fun z => Corrected_0c l z hR ho he k hk' s hoa hea
          by_cases ht : s.t = (at_ l k).t
          · obtain ⟨e1, e2⟩ := set_ends hk' ht
            have hfl := fl_le hR
            have m1 : nm.size ≤ 1000 := by omega
            by_cases hT : tchL (frstT l) (lastT l) (frstT (l.set k s)) (lastT (l.set k s)) (tcD bd bd l (l.set k s)) = []
            · exact CoL_0 k s hk' ho h40 hoa hob la lb hf he hRC hRW hW hC hea ht (fun z1 z2 => Touched_0 z1 z2 m1 m1 hR hRa he hea ⟨by omega, by omega⟩ hT)
            · refine CoL_y k s hk' ho h40 hoa hob la lb hf he hRC hRW hW hC hea ht _ hT ?_ (touch_in hR hk' ht) (fun z1 z2 => Touched_anyC z1 z2 m1 m1 hR hRa he hea (by omega) hT)
              rw [e1, e2]
              unfold tchL
              rw [if_neg (by omega), if_neg (by omega)]
              have := run_len (tch (frstT l) (lastT l) (frstT l) (lastT l) (tcD bd bd l (l.set k s))) (frstT l) (lastT l - frstT l + 1).toNat
              omega
          · exact CoL_t k s hk' ho h40 hoa hob la lb hf he hRC hRW hW hC hea ht
        · exact CoL_a k s hk' ho h40 hoa hob la lb hf he hRC hRW hW _ rfl hea (fun z => Corrected_xc l z hR ho he k hk' s hoa _ rfl hea)
    · exact CoL_e t s _ ho (by omega) hf he

set_option maxRecDepth 100000 in
theorem lifted (os : Os) (started : os.Started) (H : Type) (enc : TypeId × Value → H) :
    ReturnsInHanded {} Try.checked os 14 .any (Rows.orbitCorrectsSpec.pre6 enc Try.prog Try.f14 Rows.orbitCorrectsRow.domain false) (Rows.orbitCorrectsSpec.post enc Try.prog Try.f14 false true false false) := by
  refine returnsInHanded_of_change (C := Try.checked) own started (by kernel_rfl) Try.func14
    (ChangeSpec.witness6 (enc := enc) (C := Try.checked) false ⟨#[], #[.agg #[.string ⟨#[]⟩, .int .i64 0, .slice none 0 0], .int .i64 0, .agg #[.int .i64 0, .int .i64 0, .int .i64 0, .int .i64 0, .int .i64 0]], []⟩ 8 (by kernel_rfl) (by kernel_rfl) (by kernel_rfl) (by kernel_rfl)) ?_
  intro W base args ds gs before hval0 hW hcnd _
  have hval : ∀ (j : Nat) t v, Try.f14.params[j]? = some t → args[j]? = some v → Value.okWide Try.prog W .any base t v := hval0
  have hW' := hW
  obtain ⟨p, q, hA0, hV, rfl, hfz, hnd⟩ := hW
  have hA : DataW.TrodAll enc Try.prog W 0 (fun _ => true) true Try.f14.params.toList args.toList ds p := hA0
  rw [Try.params14] at hA hval
  obtain ⟨v0, vs0, d0, ds0, p0, q0, hargs, rfl, rfl, h0, r0⟩ := trodAll_cons hA
  obtain ⟨v1, vs1, d1, ds1, p1, q1, rfl, rfl, rfl, h1, r1⟩ := trodAll_cons r0
  obtain ⟨v2, vs2, d2, ds2, p2, q2, rfl, rfl, rfl, h2, r2⟩ := trodAll_cons r1
  obtain ⟨rfl, rfl, rfl⟩ := trodAll_nil r2
  obtain rfl : args = #[v0, v1, v2] := by cases args; simp_all
  obtain ⟨rfl, rfl⟩ := trodVars_none hV
  clear hA0 hval0
  have hlt := hW'.lt
  have g0 := h0
  have g1 := h1
  have g2 := h2
  obtain ⟨nm0, bd0, a0, l0, cap0, rfl, hnm0, hcap0, hcm0, hS0, hz0⟩ := open_orbit2 (hval 0 24 v0 rfl rfl) h0
  obtain ⟨x1, rfl, -, -, wx1⟩ := open_int Try.underlying3 (hval 1 3 v1 rfl rfl) h1
  obtain ⟨x0_2, x1_2, x2_2, x3_2, x4_2, rfl, hx0_2, hx1_2, hx2_2, hx3_2, hx4_2⟩ := open_U (hval 2 55 v2 rfl rfl) h2
  simp only [List.append_nil] at hW' hlt ⊢
  refine (walk nm0 bd0 a0 l0 cap0 x1 x0_2 x1_2 x2_2 x3_2 x4_2 W hnm0 hcap0 hcm0 hS0 hz0 hx0_2).mono fun e W' ⟨he, hb⟩ => ?_
  subst he
  have stay : ∀ (t : TypeId) v d ps (sp : Nat → Bool), Try.prog.readableRec t = true → t < Try.prog.types.size → DataW.Trod enc Try.prog W 0 (fun _ => true) true t v d ps → (∀ x ∈ ps, x.block < W.heap.size) → (∀ x ∈ ps, sp x.block = true) → DataW.Trod enc Try.prog W' 0 sp true t v d ps :=
    fun t v d ps sp hr ht h hx hs => Go.WideElems.Trod_stays laid hr ht h (fun x hxp => hb.same (hx x hxp)) hs
  exact ⟨_, rfl, post_below (pa := p0 ++ (p1 ++ (p2 ++ []))) (pv := []) hW' (fun _ _ _ => trodAll_mk1 (shut_bool Try.underlying4 true)) (fun sp hs => (trodAll_cons_mk (stay 24 _ _ _ sp (by kernel_rfl) (of_decide_eq_true (by kernel_rfl)) g0 (fun x hx => hlt x (by simp [hx])) (fun x hx => hs x (by simp [hx]))) (trodAll_cons_mk (stay 3 _ _ _ sp (by kernel_rfl) (of_decide_eq_true (by kernel_rfl)) g1 (fun x hx => hlt x (by simp [hx])) (fun x hx => hs x (by simp [hx]))) (trodAll_cons_mk (stay 55 _ _ _ sp (by kernel_rfl) (of_decide_eq_true (by kernel_rfl)) g2 (fun x hx => hlt x (by simp [hx])) (fun x hx => hs x (by simp [hx]))) (trodAll_mk0))))) (fun _ _ => rfl) (by simp)
    hb (ok_one (by kernel_rfl) rfl (okWide_bool_mk Try.underlying4 true))⟩

theorem over : Rows.orbitCorrectsRow.holds Try.pinned (OpenSpec.ofChange Rows.orbitCorrectsSpec) :=
  OpenClaim.holds_of_wide 14 Try.f14 rfl rfl rfl rfl rfl rfl rfl ⟨rfl, rfl, rfl, rfl, rfl⟩ rfl rfl rfl rfl rfl (by kernel_rfl) Try.func14 (by kernel_rfl)
    (of_decide_eq_true (by kernel_rfl)) (by unfold Func.isWrapper; first | (rw [if_pos (by decide +kernel)]; kernel_rfl) | (rw [if_neg (by decide +kernel)]; exact ⟨rfl, rfl⟩))
    (fun os started H enc _ => lifted os started H enc)

/-- The statement. -/
theorem proved : Rows.OrbitCorrectsSaid := over
#print axioms proved
end Go.Proofs.Ythpjhpfebjjanaa.OrbitCorrects
end
