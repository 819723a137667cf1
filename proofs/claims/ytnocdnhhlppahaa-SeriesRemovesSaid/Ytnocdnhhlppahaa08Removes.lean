/- SeriesRemoves: Removed returns the phases less the trend, or the errors; of points on a straight line nothing is left. -/
import Derived.Test.Ytnocdnhhlppahaa08rm
import Derived.Test.Ytnocdnhhlppahaa08sg
set_option linter.unusedSimpArgs false
set_option linter.unusedVariables false
section
namespace Go.Sr
/-- A point with another phase. -/
def smE (l : List Scp) (a b : Int) (i : Nat) : Scp := ⟨(sp_ l i).x, (sp_ l i).y, (sp_ l i).h, a * (sp_ l i).h + b⟩
/-- The first k points on a straight line. -/
def smL (l : List Scp) (a b : Int) (k : Nat) : List Scp := (List.range l.length).map fun i => if i < k then smE l a b i else sp_ l i
theorem smL_len (l : List Scp) (a b : Int) (k : Nat) : (smL l a b k).length = l.length := by simp [smL]
theorem smL_at (l : List Scp) (a b : Int) (k i : Nat) (h : i < l.length) : sp_ (smL l a b k) i = if i < k then smE l a b i else sp_ l i := by
  unfold smL
  rw [show sp_ ((List.range l.length).map fun i => if i < k then smE l a b i else sp_ l i) i = ((List.range l.length).map fun i => if i < k then smE l a b i else sp_ l i).getD i Scp0 from rfl]
  rw [List.getD_eq_getElem?_getD, List.getElem?_map, List.getElem?_range h]
  rfl
theorem smL_0 (l : List Scp) (a b : Int) : smL l a b 0 = l := by
  refine List.ext_getElem? fun i => ?_
  by_cases h : i < l.length
  · unfold smL
    rw [List.getElem?_map, List.getElem?_range h, List.getElem?_eq_getElem h]
    simp [sp_, List.getD_eq_getElem?_getD, h]
  · rw [List.getElem?_eq_none (by rw [smL_len]; omega), List.getElem?_eq_none (by omega)]
theorem smL_succ (l : List Scp) (a b : Int) (k : Nat) (hk : k < l.length) : smL l a b (k + 1) = (smL l a b k).set k (smE l a b k) := by
  refine List.ext_getElem? fun i => ?_
  rw [List.getElem?_set, smL_len, if_pos hk]
  by_cases h : i < l.length
  · unfold smL
    rw [List.getElem?_map, List.getElem?_range h, List.getElem?_map, List.getElem?_range h]
    simp only [Option.map_some]
    by_cases hi : k = i
    · subst hi
      rw [if_pos (by omega), if_pos rfl]
    · rw [if_neg hi]
      by_cases h2 : i < k
      · rw [if_pos (by omega), if_pos h2]
      · rw [if_neg (by omega), if_neg h2]
  · rw [List.getElem?_eq_none (by rw [smL_len]; omega), if_neg (by omega), List.getElem?_eq_none (by rw [smL_len]; omega)]
theorem sp_line (a b : Int) : ∀ L : List (Int × Int), (∀ r ∈ L, r.2 = a * r.1 + b) → sp (fun r => r.2) L = a * sp (fun r => r.1) L + L.length * b ∧ sp (fun r => r.1 * r.2) L = a * sp (fun r => r.1 * r.1) L + b * sp (fun r => r.1) L
  | [], _ => by simp [sp]
  | r :: L, h => by
    obtain ⟨h1, h2⟩ := sp_line a b L fun x hx => h x (by simp [hx])
    have h3 := h r (by simp)
    rw [sp_cons, sp_cons, sp_cons, sp_cons, List.length_cons, h1, h2, h3]
    rw [Int.natCast_add]
    constructor <;> grind
theorem ln_line {a b : Int} {L : List (Int × Int)} (h : ∀ r ∈ L, r.2 = a * r.1 + b) : lnS L = a * lnD L ∧ lnC L = b * lnD L := by
  obtain ⟨h1, h2⟩ := sp_line a b L h
  unfold lnS lnC lnD ln
  simp only
  rw [h1, h2]
  constructor <;> grind
theorem sp_fst {f : Int → Int} : ∀ {L M : List (Int × Int)}, L.map (·.1) = M.map (·.1) → sp (fun r => f r.1) L = sp (fun r => f r.1) M
  | [], [], _ => rfl
  | [], _ :: _, h => by simp at h
  | _ :: _, [], h => by simp at h
  | r :: L, s :: M, h => by
    simp only [List.map_cons, List.cons.injEq] at h
    rw [sp_cons, sp_cons, sp_fst h.2, h.1]
theorem lnD_fst {L M : List (Int × Int)} (h : L.map (·.1) = M.map (·.1)) : lnD L = lnD M := by
  have hl : L.length = M.length := by have := congrArg List.length h; simpa using this
  unfold lnD ln
  simp only
  rw [hl, sp_fst (f := fun x => x * x) h, sp_fst (f := fun x => x) h]
theorem prS_sm (l : List Scp) (a b : Int) : (prS (smL l a b l.length)).map (·.1) = (prS l).map (·.1) ∧ ∀ r ∈ prS (smL l a b l.length), r.2 = a * r.1 + b := by
  constructor
  · unfold prS
    rw [List.map_map, List.map_map]
    refine List.ext_getElem? fun i => ?_
    rw [List.getElem?_map, List.getElem?_map]
    by_cases h : i < l.length
    · have h1 := smL_at l a b l.length i h
      rw [if_pos h, sp_get _ i (by rw [smL_len]; exact h)] at h1
      rw [List.getElem?_eq_getElem (by rw [smL_len]; exact h), h1, List.getElem?_eq_getElem h]
      simp [smE, sp_get l i h]
    · rw [List.getElem?_eq_none (by rw [smL_len]; omega), List.getElem?_eq_none (by omega)]
  · intro r hr
    obtain ⟨s, hs, rfl⟩ := List.mem_map.1 hr
    obtain ⟨i, hi, rfl⟩ := List.getElem_of_mem hs
    have hi' : i < l.length := by rwa [smL_len] at hi
    have h1 := smL_at l a b l.length i hi'
    rw [if_pos hi', sp_get _ i hi] at h1
    simp only
    rw [h1]
    rfl
theorem smL_right {l : List Scp} (h : CRight l) {a b : Int} (ha : -50 ≤ a ∧ a ≤ 50) (hb : -50 ≤ b ∧ b ≤ 50) : CRight (smL l a b l.length) := by
  refine ⟨by rw [smL_len]; exact h.n1, by rw [smL_len]; exact h.n24, fun k hk => ?_⟩
  rw [smL_len] at hk
  rw [smL_at l a b l.length k hk, if_pos hk]
  have hbd := h.bd k hk
  have hm := mulc 10000 ha hbd.2.2.1 (by decide)
  unfold spB smE
  simp only [Bool.and_eq_true, rngB_true]
  omega
/-- Of points on a straight line nothing is left. -/
theorem rm_zero {l : List Scp} {a b : Int} (h0 : lnD (prS l) ≠ 0) : rmL (smL l a b l.length) l.length = List.replicate l.length 0 := by
  obtain ⟨h1, h2⟩ := prS_sm l a b
  obtain ⟨h3, h4⟩ := ln_line h2
  have h5 := lnD_fst h1
  have hd := lnD_nonneg (prS l)
  refine List.ext_getElem? fun i => ?_
  by_cases h : i < l.length
  · unfold rmL
    rw [List.getElem?_map, List.getElem?_range h, List.getElem?_replicate, if_pos h]
    simp only [Option.map_some, Option.some.injEq]
    unfold rmv
    rw [h3, h4, h5, smL_at l a b l.length i h, if_pos h]
    generalize lnD (prS l) = D at *
    rw [show 2 * ((smE l a b i).p * D - a * D * (smE l a b i).h - b * D) + D = D by
      unfold smE
      simp only
      grind]
    exact Int.ediv_eq_zero_of_lt (by omega) (by omega)
  · rw [List.getElem?_eq_none (by rw [rmL_len]; omega), List.getElem?_eq_none (by simp; omega)]
end Go.Sr
namespace Go.Proofs.Ytnocdnhhlppahaa
open Go.ChangeShapes Go.WideShapes Go.ChangeAt Go Go.RowKit Go.Ab Go.Sr
theorem flatP_set (l : List Scp) (k : Nat) (x : Scp) (hk : k < l.length) (hx : x.x = (sp_ l k).x) (hy : x.y = (sp_ l k).y) (hh : x.h = (sp_ l k).h) : (flatP l).set (k * 4 + 3) (.int .i64 x.p) = flatP (l.set k x) := by
  refine List.ext_getElem? fun i => ?_
  by_cases hi : i < l.length * 4
  · have e0 : i / 4 * 4 + i % 4 = i := by omega
    have h1 := flatSp_get l (i / 4) (i % 4) (by omega) (by omega)
    have h2 := flatSp_get (l.set k x) (i / 4) (i % 4) (by omega) (by rw [List.length_set]; omega)
    rw [e0] at h1 h2
    rw [h2, List.getElem?_set, flatP_len]
    have hg : sp_ (l.set k x) (i / 4) = if k = i / 4 then x else sp_ l (i / 4) := by
      unfold sp_
      rw [List.getD_eq_getElem?_getD, List.getElem?_set, if_pos hk]
      split
      · rfl
      · rw [List.getD_eq_getElem?_getD]
    rw [hg]
    have hj : i % 4 = 0 ∨ i % 4 = 1 ∨ i % 4 = 2 ∨ i % 4 = 3 := by omega
    by_cases hk4 : k = i / 4
    · rw [if_pos hk4]
      rw [← hk4] at h1
      rcases hj with h | h | h | h
      · rw [if_neg (by omega), h1, h]; simp [spC, hx]
      · rw [if_neg (by omega), h1, h]; simp [spC, hy]
      · rw [if_neg (by omega), h1, h]; simp [spC, hh]
      · rw [if_pos (by omega), if_pos (by omega), h]; rfl
    · rw [if_neg hk4, if_neg (by omega), h1]
  · rw [List.getElem?_eq_none (by rw [List.length_set, flatP_len]; omega), List.getElem?_eq_none (by rw [flatP_len, List.length_set]; omega)]
theorem sm_step (l : List Scp) (a b : Int) (k : Nat) (hk : k < l.length) : (flatP (smL l a b k)).set (k * 4 + 3) (.int .i64 (a * (sp_ l k).h + b)) = flatP (smL l a b (k + 1)) := by
  have h := smL_at l a b k k hk
  rw [if_neg (by omega)] at h
  rw [smL_succ l a b k hk]
  exact flatP_set (smL l a b k) k (smE l a b k) (by rw [smL_len]; exact hk) (by rw [h]; rfl) (by rw [h]; rfl) (by rw [h]; rfl)
theorem mk1 {n : Nat} {f : Nat → Value} (hf : ∀ i, f i = .int .i64 0) : (List.range n).map f = flatI (List.replicate n 0) := by
  induction n with
  | zero => rfl
  | succ n ih =>
    rw [List.range_succ, List.map_append, ih, List.replicate_succ']
    simp [flatI, intC, hf]
set_option maxRecDepth 100000
set_option maxHeartbeats 8000000
attribute [local irreducible] OQ OW AL AW AD AF SW

/-- The errors. -/
theorem RmL_e {l : List Scp} (hl : l.length ≤ 26) (a b c d : Int) (hd : d ≠ 0) (hc : csE l = c)
    (H1 : ∀ (m : Mem) (v : Value), SlP m v l → PCalls Try.prog 55 [v] m (.tuple #[.slice none 0 0, .int .i64 d]))
    (H2 : c = 0 → ∀ (m : Mem) (v : Value), SlP m v l → PCalls Try.prog 57 [v] m (.tuple #[.slice none 0 0, .int .i64 d])) (hcd : c = 0 ∨ c = d) (v : Value) (m0 : Mem) (h : ShG (flatP l) l.length v m0) :
    PCalls Try.prog 12 [v, .int .i64 a, .int .i64 b] m0 (.bool true) := by
  have HA := awake_q
  have HR := fun (m : Mem) (v : Value) (hS : SlP m v l) => rCheckScreen_q l hS (by omega)
  rw [hc] at HR
  have HI := Ints_nil
  have hlen := flatP_len l
  rcases h with ⟨rfl, rfl, h3⟩ | ⟨rfl, rfl, h3⟩ | ⟨z, rfl, rfl⟩
  refine PCalls.enter (t := [.slice none 0 0, .int .i64 a, .int .i64 b, undef, undef, undef, undef, undef, undef, undef, undef, undef, undef, undef, undef, undef, undef, undef, undef, undef, undef, undef, undef, undef, undef, undef, undef, undef, undef, undef, undef, undef, undef, undef, undef, undef, undef, undef, undef, undef, undef, undef, undef, undef, undef, undef, undef, undef, undef, undef, undef, undef, undef, undef, undef, undef, undef, undef, undef, undef, undef, undef, undef, undef, undef, undef, undef, undef, undef, undef, undef, undef, undef, undef, undef, undef, undef, undef, undef, undef, undef, undef, undef, undef, undef, undef, undef, undef, undef, undef, undef, undef, undef]) Try.func12 rfl (ro_nil) rfl fun E => ?_
  repeat' (first
    | with_reducible refine Then.n ?_
    | with_reducible refine Then.r ?_
    | with_reducible refine Then.x ?_
    | with_reducible refine InB.n ?_
    | with_reducible refine InB.r ?_
    | with_reducible refine InB.hit ?_
    | with_reducible refine InB.miss (by decide) ?_
    | ((with_reducible refine AL.on ?_); first
      | (refine AL.gd rfl ?_; first | (refine AL.gskip rfl rfl ?_; (conv => (arg 5; try tactic => exact nrm))) | (refine AL.gs1 rfl rfl (fun hc => ?_) (fun hc => ?_) <;> (try simp only [decide_eq_true_eq, decide_eq_false_iff_not, Bool.not_true, Bool.not_false, Bool.not_eq_true', Bool.not_eq_false', Int.not_lt, Int.not_le, Classical.not_not, ne_eq] at hc) <;> first | (exfalso; first | contradiction | (first | omega | (simp at *; done)); done) | (conv => (arg 5; try tactic => exact nrm))) | (refine AL.gs0 rfl rfl (fun hc => ?_) (fun hc => ?_) <;> (try simp only [decide_eq_true_eq, decide_eq_false_iff_not, Bool.not_true, Bool.not_false, Bool.not_eq_true', Bool.not_eq_false', Int.not_lt, Int.not_le, Classical.not_not, ne_eq] at hc) <;> first | (exfalso; first | contradiction | (first | omega | (simp at *; done)); done) | (conv => (arg 5; try tactic => exact nrm))))
      | ((first | ((with_reducible refine AL.k_move ?_); first | (refine AL.q rfl (OQ.move (by conv => lhs; whnf)) ?_)) | ((with_reducible refine AL.k_assign ?_); first | (refine AL.q rfl (OQ.assign (by conv => lhs; whnf)) ?_)) | ((with_reducible refine AL.k_call ?_); first | refine AL.q rfl (OQ.lenS (xt := 108) (r := (none, 4, true)) rfl (by kernel_rfl)) ?_ | refine AL.q rfl (OQ.append0 (v := undef) (z := 4) (e := 117) rfl rfl (by kernel_rfl) (by kernel_rfl)) ?_) | ((with_reducible refine AL.k_binOp ?_); first | refine AL.q rfl (OQ.gtr rfl rfl) ?_ | refine AL.q rfl (OQ.eql rfl rfl) ?_ | refine AL.q rfl (OQ.neq rfl rfl) ?_ | refine AL.q rfl (OQ.lss rfl rfl) ?_ | refine AL.q rfl (OQ.muli rfl rfl (by omega)) ?_ | refine AL.q rfl (OQ.mul rfl rfl) ?_ | refine AL.q rfl (OQ.addi rfl rfl (by omega)) ?_ | refine AL.q rfl (OQ.add rfl rfl) ?_) | ((with_reducible refine AL.k_extract ?_); first | refine AL.q rfl (OQ.extract rfl rfl) ?_) | ((with_reducible refine AL.k_unOp ?_); first | refine AL.q rfl (OQ.not rfl) ?_) | ((with_reducible refine AL.k_pick ?_); first | (refine AL.q rfl (OQ.pickT rfl (by with_reducible rfl) (by conv => lhs; whnf)) ?_) | (refine AL.q rfl (OQ.pickF rfl (by with_reducible rfl) (by conv => lhs; whnf)) ?_)) | ((with_reducible refine AL.k_indexAddr ?_); first | refine AL.q rfl (OQ.idxAddr (ty := 108) (z := 4) (g := true) rfl rfl (by kernel_rfl) (by omega) (by omega)) ?_) | ((with_reducible refine AL.k_fieldAddr ?_); first | refine AL.q rfl (OQ.fieldA (ty := 117) (i := 2) (n := 1) (off := 2) (g := false) rfl (by kernel_rfl) (by decide)) ?_ | refine AL.q rfl (OQ.fieldA (ty := 117) (i := 3) (n := 1) (off := 3) (g := false) rfl (by kernel_rfl) (by decide)) ?_) | ((with_reducible refine AL.k_load ?_); first | (refine AL.q rfl (OQ.load1 (ty := 3) rfl (by kernel_rfl) (by conv => lhs; whnf)) ?_))); (conv => (arg 5; try tactic => exact nrm)))
      | ((first | first | refine AL.pcall (g := 15) rfl (by kernel_rfl) rfl (HA _) ?_ | refine AL.pcall (g := 55) rfl (by kernel_rfl) rfl (H1 _ _ (.emp h3 _ _ _ rfl)) ?_ | refine AL.pcall (g := 56) rfl (by kernel_rfl) rfl (HR _ _ (.nil h3 rfl)) ?_ | refine AL.pcall (g := 57) rfl (by kernel_rfl) rfl (H2 (by omega) _ _ (.nil h3 rfl)) ?_ | refine AL.pcall (g := 58) rfl (by kernel_rfl) rfl (HI _) ?_); (conv => (arg 5; try tactic => exact nrm)))
      | ((first | ((with_reducible refine AL.k_buildSlice ?_); first | refine AL.w rfl (OW.buildSl0 (ty := 108) (z := (none, 4, true)) (by kernel_rfl)) ?_) | ((with_reducible refine AL.k_store ?_); first | (refine AL.w rfl (OW.store (ty := 3) (n := 1) rfl (by conv => lhs; whnf) rfl rfl (by kernel_rfl) rfl rfl (by decide) rfl (Nat.le_of_ble_eq_true rfl) (by intro r h; cases h)) ?_)) | refine AL.w rfl (OW.makeSl (st := 109) (e := 3) (z := 1) (by' := 8) (zs := [.int .i64 0]) rfl (by kernel_rfl) (by kernel_rfl) (by kernel_rfl) rfl rfl (by kernel_rfl) (by decide) (by omega) (by omega)) ?_); (conv => (arg 5; try tactic => exact nrm)); (conv => (arg 6; try tactic => exact nrm)))
      | (refine AL.bs rfl (fun hc => ?_) (fun hc => ?_) <;> (fail_if_success (with_reducible exact lit_no hc)) <;> (try simp only [decide_eq_true_eq, decide_eq_false_iff_not, Bool.not_true, Bool.not_false, Bool.not_eq_true', Bool.not_eq_false', Int.not_lt, Int.not_le, Classical.not_not, ne_eq] at hc) <;> first | (exfalso; first | contradiction | (first | omega | (simp at *; done)); done) | (conv => (arg 5; try tactic => exact nrm)))
      | refine AL.nil ?_)
    | ((with_reducible refine AW.on ?_); first
      | refine AW.seq ?_
      | refine AW.skip ?_
      | refine AW.exit ?_
      | refine AW.ret ?_
      | refine AW.block ?_
      | (refine AW.region (id := 2) ?_; exfalso; first | omega | (simp at *; done); done)
      | (refine AW.region (id := 4) ?_; exfalso; first | omega | (simp at *; done); done)
      | (refine AW.region (id := 11) ?_; exfalso; first | omega | (simp at *; done); done)
      | (refine AW.region (id := 14) ?_; exfalso; first | omega | (simp at *; done); done)
      | refine AW.region ?_
      | (refine AW.conds rfl (fun hc => ?_) (fun hc => ?_) <;> (try simp only [decide_eq_true_eq, decide_eq_false_iff_not, Bool.not_true, Bool.not_false, Bool.not_eq_true', Bool.not_eq_false', Int.not_lt, Int.not_le, Classical.not_not, ne_eq] at hc) <;> first | (exfalso; first | contradiction | (first | omega | (simp at *; done)); done) | skip))
    | ((with_reducible refine FinP.on ?_); (first | refine FinP.ret (.tmp (by conv => lhs; whnf) .nil) ?_ rfl | refine FinP.end (.tmp (by conv => lhs; whnf) .nil) ?_ rfl); (try simp only [pack, List.drop, List.take]); all_goals (rfl)))
  refine PCalls.enter (t := [lostV, .int .i64 a, .int .i64 b, undef, undef, undef, undef, undef, undef, undef, undef, undef, undef, undef, undef, undef, undef, undef, undef, undef, undef, undef, undef, undef, undef, undef, undef, undef, undef, undef, undef, undef, undef, undef, undef, undef, undef, undef, undef, undef, undef, undef, undef, undef, undef, undef, undef, undef, undef, undef, undef, undef, undef, undef, undef, undef, undef, undef, undef, undef, undef, undef, undef, undef, undef, undef, undef, undef, undef, undef, undef, undef, undef, undef, undef, undef, undef, undef, undef, undef, undef, undef, undef, undef, undef, undef, undef, undef, undef, undef, undef, undef, undef]) Try.func12 rfl (ro_nil) rfl fun E => ?_
  repeat' (first
    | with_reducible refine Then.n ?_
    | with_reducible refine Then.r ?_
    | with_reducible refine Then.x ?_
    | with_reducible refine InB.n ?_
    | with_reducible refine InB.r ?_
    | with_reducible refine InB.hit ?_
    | with_reducible refine InB.miss (by decide) ?_
    | ((with_reducible refine AL.on ?_); first
      | (refine AL.gd rfl ?_; first | (refine AL.gskip rfl rfl ?_; (conv => (arg 5; try tactic => exact nrm))) | (refine AL.gs1 rfl rfl (fun hc => ?_) (fun hc => ?_) <;> (try simp only [decide_eq_true_eq, decide_eq_false_iff_not, Bool.not_true, Bool.not_false, Bool.not_eq_true', Bool.not_eq_false', Int.not_lt, Int.not_le, Classical.not_not, ne_eq] at hc) <;> first | (exfalso; first | contradiction | (first | omega | (simp at *; done)); done) | (conv => (arg 5; try tactic => exact nrm))) | (refine AL.gs0 rfl rfl (fun hc => ?_) (fun hc => ?_) <;> (try simp only [decide_eq_true_eq, decide_eq_false_iff_not, Bool.not_true, Bool.not_false, Bool.not_eq_true', Bool.not_eq_false', Int.not_lt, Int.not_le, Classical.not_not, ne_eq] at hc) <;> first | (exfalso; first | contradiction | (first | omega | (simp at *; done)); done) | (conv => (arg 5; try tactic => exact nrm))))
      | ((first | ((with_reducible refine AL.k_move ?_); first | (refine AL.q rfl (OQ.move (by conv => lhs; whnf)) ?_)) | ((with_reducible refine AL.k_assign ?_); first | (refine AL.q rfl (OQ.assign (by conv => lhs; whnf)) ?_)) | ((with_reducible refine AL.k_call ?_); first | refine AL.q rfl (OQ.lenS (xt := 108) (r := (none, 4, true)) rfl (by kernel_rfl)) ?_ | refine AL.q rfl (OQ.append0 (v := undef) (z := 4) (e := 117) rfl rfl (by kernel_rfl) (by kernel_rfl)) ?_) | ((with_reducible refine AL.k_binOp ?_); first | refine AL.q rfl (OQ.gtr rfl rfl) ?_ | refine AL.q rfl (OQ.eql rfl rfl) ?_ | refine AL.q rfl (OQ.neq rfl rfl) ?_ | refine AL.q rfl (OQ.lss rfl rfl) ?_ | refine AL.q rfl (OQ.muli rfl rfl (by omega)) ?_ | refine AL.q rfl (OQ.mul rfl rfl) ?_ | refine AL.q rfl (OQ.addi rfl rfl (by omega)) ?_ | refine AL.q rfl (OQ.add rfl rfl) ?_) | ((with_reducible refine AL.k_extract ?_); first | refine AL.q rfl (OQ.extract rfl rfl) ?_) | ((with_reducible refine AL.k_unOp ?_); first | refine AL.q rfl (OQ.not rfl) ?_) | ((with_reducible refine AL.k_pick ?_); first | (refine AL.q rfl (OQ.pickT rfl (by with_reducible rfl) (by conv => lhs; whnf)) ?_) | (refine AL.q rfl (OQ.pickF rfl (by with_reducible rfl) (by conv => lhs; whnf)) ?_)) | ((with_reducible refine AL.k_indexAddr ?_); first | refine AL.q rfl (OQ.idxAddr (ty := 108) (z := 4) (g := true) rfl rfl (by kernel_rfl) (by omega) (by omega)) ?_) | ((with_reducible refine AL.k_fieldAddr ?_); first | refine AL.q rfl (OQ.fieldA (ty := 117) (i := 2) (n := 1) (off := 2) (g := false) rfl (by kernel_rfl) (by decide)) ?_ | refine AL.q rfl (OQ.fieldA (ty := 117) (i := 3) (n := 1) (off := 3) (g := false) rfl (by kernel_rfl) (by decide)) ?_) | ((with_reducible refine AL.k_load ?_); first | (refine AL.q rfl (OQ.load1 (ty := 3) rfl (by kernel_rfl) (by conv => lhs; whnf)) ?_))); (conv => (arg 5; try tactic => exact nrm)))
      | ((first | first | refine AL.pcall (g := 15) rfl (by kernel_rfl) rfl (HA _) ?_ | refine AL.pcall (g := 55) rfl (by kernel_rfl) rfl (H1 _ _ (.emp h3 _ _ _ rfl)) ?_ | refine AL.pcall (g := 56) rfl (by kernel_rfl) rfl (HR _ _ (.lost h3 rfl)) ?_ | refine AL.pcall (g := 57) rfl (by kernel_rfl) rfl (H2 (by omega) _ _ (.lost h3 rfl)) ?_ | refine AL.pcall (g := 58) rfl (by kernel_rfl) rfl (HI _) ?_); (conv => (arg 5; try tactic => exact nrm)))
      | ((first | ((with_reducible refine AL.k_buildSlice ?_); first | refine AL.w rfl (OW.buildSl0 (ty := 108) (z := (none, 4, true)) (by kernel_rfl)) ?_) | ((with_reducible refine AL.k_store ?_); first | (refine AL.w rfl (OW.store (ty := 3) (n := 1) rfl (by conv => lhs; whnf) rfl rfl (by kernel_rfl) rfl rfl (by decide) rfl (Nat.le_of_ble_eq_true rfl) (by intro r h; cases h)) ?_)) | refine AL.w rfl (OW.makeSl (st := 109) (e := 3) (z := 1) (by' := 8) (zs := [.int .i64 0]) rfl (by kernel_rfl) (by kernel_rfl) (by kernel_rfl) rfl rfl (by kernel_rfl) (by decide) (by omega) (by omega)) ?_); (conv => (arg 5; try tactic => exact nrm)); (conv => (arg 6; try tactic => exact nrm)))
      | (refine AL.bs rfl (fun hc => ?_) (fun hc => ?_) <;> (fail_if_success (with_reducible exact lit_no hc)) <;> (try simp only [decide_eq_true_eq, decide_eq_false_iff_not, Bool.not_true, Bool.not_false, Bool.not_eq_true', Bool.not_eq_false', Int.not_lt, Int.not_le, Classical.not_not, ne_eq] at hc) <;> first | (exfalso; first | contradiction | (first | omega | (simp at *; done)); done) | (conv => (arg 5; try tactic => exact nrm)))
      | refine AL.nil ?_)
    | ((with_reducible refine AW.on ?_); first
      | refine AW.seq ?_
      | refine AW.skip ?_
      | refine AW.exit ?_
      | refine AW.ret ?_
      | refine AW.block ?_
      | (refine AW.region (id := 2) ?_; exfalso; first | omega | (simp at *; done); done)
      | (refine AW.region (id := 4) ?_; exfalso; first | omega | (simp at *; done); done)
      | (refine AW.region (id := 11) ?_; exfalso; first | omega | (simp at *; done); done)
      | (refine AW.region (id := 14) ?_; exfalso; first | omega | (simp at *; done); done)
      | refine AW.region ?_
      | (refine AW.conds rfl (fun hc => ?_) (fun hc => ?_) <;> (try simp only [decide_eq_true_eq, decide_eq_false_iff_not, Bool.not_true, Bool.not_false, Bool.not_eq_true', Bool.not_eq_false', Int.not_lt, Int.not_le, Classical.not_not, ne_eq] at hc) <;> first | (exfalso; first | contradiction | (first | omega | (simp at *; done)); done) | skip))
    | ((with_reducible refine FinP.on ?_); (first | refine FinP.ret (.tmp (by conv => lhs; whnf) .nil) ?_ rfl | refine FinP.end (.tmp (by conv => lhs; whnf) .nil) ?_ rfl); (try simp only [pack, List.drop, List.take]); all_goals (rfl)))
  have hone : (flatP l).all Ab.one = true := one_of_scal (flatP_scal l)
  by_cases hn0 : l.length = 0
  · have hP0 : flatP l = [] := by rw [List.eq_nil_of_length_eq_zero hn0]; rfl
    rw [hn0, hP0]
    refine PCalls.enter (t := [.slice (some ⟨0, 0, none⟩) (0) INF, .int .i64 a, .int .i64 b, undef, undef, undef, undef, undef, undef, undef, undef, undef, undef, undef, undef, undef, undef, undef, undef, undef, undef, undef, undef, undef, undef, undef, undef, undef, undef, undef, undef, undef, undef, undef, undef, undef, undef, undef, undef, undef, undef, undef, undef, undef, undef, undef, undef, undef, undef, undef, undef, undef, undef, undef, undef, undef, undef, undef, undef, undef, undef, undef, undef, undef, undef, undef, undef, undef, undef, undef, undef, undef, undef, undef, undef, undef, undef, undef, undef, undef, undef, undef, undef, undef, undef, undef, undef, undef, undef, undef, undef, undef, undef]) Try.func12 rfl (ro1 _ rfl) rfl fun E => ?_
    repeat' (first
      | with_reducible refine Then.n ?_
      | with_reducible refine Then.r ?_
      | with_reducible refine Then.x ?_
      | with_reducible refine InB.n ?_
      | with_reducible refine InB.r ?_
      | with_reducible refine InB.hit ?_
      | with_reducible refine InB.miss (by decide) ?_
      | ((with_reducible refine AL.on ?_); first
        | (refine AL.gd rfl ?_; first | (refine AL.gskip rfl rfl ?_; (conv => (arg 5; try tactic => exact nrm))) | (refine AL.gs1 rfl rfl (fun hc => ?_) (fun hc => ?_) <;> (try simp only [decide_eq_true_eq, decide_eq_false_iff_not, Bool.not_true, Bool.not_false, Bool.not_eq_true', Bool.not_eq_false', Int.not_lt, Int.not_le, Classical.not_not, ne_eq] at hc) <;> first | (exfalso; first | contradiction | (first | omega | (simp at *; done)); done) | (conv => (arg 5; try tactic => exact nrm))) | (refine AL.gs0 rfl rfl (fun hc => ?_) (fun hc => ?_) <;> (try simp only [decide_eq_true_eq, decide_eq_false_iff_not, Bool.not_true, Bool.not_false, Bool.not_eq_true', Bool.not_eq_false', Int.not_lt, Int.not_le, Classical.not_not, ne_eq] at hc) <;> first | (exfalso; first | contradiction | (first | omega | (simp at *; done)); done) | (conv => (arg 5; try tactic => exact nrm))))
        | ((first | ((with_reducible refine AL.k_move ?_); first | (refine AL.q rfl (OQ.move (by conv => lhs; whnf)) ?_)) | ((with_reducible refine AL.k_assign ?_); first | (refine AL.q rfl (OQ.assign (by conv => lhs; whnf)) ?_)) | ((with_reducible refine AL.k_call ?_); first | refine AL.q rfl (OQ.lenS (xt := 108) (r := (none, 4, true)) rfl (by kernel_rfl)) ?_ | refine AL.q rfl (OQ.append0 (v := undef) (z := 4) (e := 117) rfl rfl (by kernel_rfl) (by kernel_rfl)) ?_) | ((with_reducible refine AL.k_binOp ?_); first | refine AL.q rfl (OQ.gtr rfl rfl) ?_ | refine AL.q rfl (OQ.eql rfl rfl) ?_ | refine AL.q rfl (OQ.neq rfl rfl) ?_ | refine AL.q rfl (OQ.lss rfl rfl) ?_ | refine AL.q rfl (OQ.muli rfl rfl (by omega)) ?_ | refine AL.q rfl (OQ.mul rfl rfl) ?_ | refine AL.q rfl (OQ.addi rfl rfl (by omega)) ?_ | refine AL.q rfl (OQ.add rfl rfl) ?_) | ((with_reducible refine AL.k_extract ?_); first | refine AL.q rfl (OQ.extract rfl rfl) ?_) | ((with_reducible refine AL.k_unOp ?_); first | refine AL.q rfl (OQ.not rfl) ?_) | ((with_reducible refine AL.k_pick ?_); first | (refine AL.q rfl (OQ.pickT rfl (by with_reducible rfl) (by conv => lhs; whnf)) ?_) | (refine AL.q rfl (OQ.pickF rfl (by with_reducible rfl) (by conv => lhs; whnf)) ?_)) | ((with_reducible refine AL.k_indexAddr ?_); first | refine AL.q rfl (OQ.idxAddr (ty := 108) (z := 4) (g := true) rfl rfl (by kernel_rfl) (by omega) (by omega)) ?_) | ((with_reducible refine AL.k_fieldAddr ?_); first | refine AL.q rfl (OQ.fieldA (ty := 117) (i := 2) (n := 1) (off := 2) (g := false) rfl (by kernel_rfl) (by decide)) ?_ | refine AL.q rfl (OQ.fieldA (ty := 117) (i := 3) (n := 1) (off := 3) (g := false) rfl (by kernel_rfl) (by decide)) ?_) | ((with_reducible refine AL.k_load ?_); first | (refine AL.q rfl (OQ.load1 (ty := 3) rfl (by kernel_rfl) (by conv => lhs; whnf)) ?_))); (conv => (arg 5; try tactic => exact nrm)))
        | ((first | first | refine AL.pcall (g := 15) rfl (by kernel_rfl) rfl (HA _) ?_ | refine AL.pcall (g := 55) rfl (by kernel_rfl) rfl (H1 _ _ (.emp hn0 _ _ _ rfl)) ?_ | refine AL.pcall (g := 56) rfl (by kernel_rfl) rfl (HR _ _ (.emp hn0 _ _ _ rfl)) ?_ | refine AL.pcall (g := 57) rfl (by kernel_rfl) rfl (H2 (by omega) _ _ (.emp hn0 _ _ _ rfl)) ?_ | refine AL.pcall (g := 58) rfl (by kernel_rfl) rfl (HI _) ?_); (conv => (arg 5; try tactic => exact nrm)))
        | ((first | ((with_reducible refine AL.k_buildSlice ?_); first | refine AL.w rfl (OW.buildSl0 (ty := 108) (z := (none, 4, true)) (by kernel_rfl)) ?_) | ((with_reducible refine AL.k_store ?_); first | (refine AL.w rfl (OW.store (ty := 3) (n := 1) rfl (by conv => lhs; whnf) rfl rfl (by kernel_rfl) rfl rfl (by decide) rfl (Nat.le_of_ble_eq_true rfl) (by intro r h; cases h)) ?_)) | refine AL.w rfl (OW.makeSl (st := 109) (e := 3) (z := 1) (by' := 8) (zs := [.int .i64 0]) rfl (by kernel_rfl) (by kernel_rfl) (by kernel_rfl) rfl rfl (by kernel_rfl) (by decide) (by omega) (by omega)) ?_); (conv => (arg 5; try tactic => exact nrm)); (conv => (arg 6; try tactic => exact nrm)))
        | (refine AL.bs rfl (fun hc => ?_) (fun hc => ?_) <;> (fail_if_success (with_reducible exact lit_no hc)) <;> (try simp only [decide_eq_true_eq, decide_eq_false_iff_not, Bool.not_true, Bool.not_false, Bool.not_eq_true', Bool.not_eq_false', Int.not_lt, Int.not_le, Classical.not_not, ne_eq] at hc) <;> first | (exfalso; first | contradiction | (first | omega | (simp at *; done)); done) | (conv => (arg 5; try tactic => exact nrm)))
        | refine AL.nil ?_)
      | ((with_reducible refine AW.on ?_); first
        | refine AW.seq ?_
        | refine AW.skip ?_
        | refine AW.exit ?_
        | refine AW.ret ?_
        | refine AW.block ?_
        | (refine AW.region (id := 2) ?_; exfalso; first | omega | (simp at *; done); done)
        | (refine AW.region (id := 4) ?_; exfalso; first | omega | (simp at *; done); done)
        | (refine AW.region (id := 11) ?_; exfalso; first | omega | (simp at *; done); done)
        | (refine AW.region (id := 14) ?_; exfalso; first | omega | (simp at *; done); done)
        | refine AW.region ?_
        | (refine AW.conds rfl (fun hc => ?_) (fun hc => ?_) <;> (try simp only [decide_eq_true_eq, decide_eq_false_iff_not, Bool.not_true, Bool.not_false, Bool.not_eq_true', Bool.not_eq_false', Int.not_lt, Int.not_le, Classical.not_not, ne_eq] at hc) <;> first | (exfalso; first | contradiction | (first | omega | (simp at *; done)); done) | skip))
      | ((with_reducible refine FinP.on ?_); (first | refine FinP.ret (.tmp (by conv => lhs; whnf) .nil) ?_ rfl | refine FinP.end (.tmp (by conv => lhs; whnf) .nil) ?_ rfl); (try simp only [pack, List.drop, List.take]); all_goals (rfl)))
  · have hld : Mem.ld [some ⟨flatP l, false, z⟩, some ⟨[], true, 4⟩] 0 0 (l.length * 4) = some (flatP l) := by
      simp [Mem.ld, Mem.at, hlen, List.take_of_length_le]
    refine PCalls.enter (t := [.slice (some ⟨0, 0, none⟩) (l.length) INF, .int .i64 a, .int .i64 b, undef, undef, undef, undef, undef, undef, undef, undef, undef, undef, undef, undef, undef, undef, undef, undef, undef, undef, undef, undef, undef, undef, undef, undef, undef, undef, undef, undef, undef, undef, undef, undef, undef, undef, undef, undef, undef, undef, undef, undef, undef, undef, undef, undef, undef, undef, undef, undef, undef, undef, undef, undef, undef, undef, undef, undef, undef, undef, undef, undef, undef, undef, undef, undef, undef, undef, undef, undef, undef, undef, undef, undef, undef, undef, undef, undef, undef, undef, undef, undef, undef, undef, undef, undef, undef, undef, undef, undef, undef, undef]) Try.func12 rfl (ro1 _ rfl) rfl fun E => ?_
    repeat' (first
      | with_reducible refine Then.n ?_
      | with_reducible refine Then.r ?_
      | with_reducible refine Then.x ?_
      | with_reducible refine InB.n ?_
      | with_reducible refine InB.r ?_
      | with_reducible refine InB.hit ?_
      | with_reducible refine InB.miss (by decide) ?_
      | ((with_reducible refine AL.on ?_); first
        | (refine AL.gd rfl ?_; first | (refine AL.gskip rfl rfl ?_; (conv => (arg 5; try tactic => exact nrm))) | (refine AL.gs1 rfl rfl (fun hc => ?_) (fun hc => ?_) <;> (try simp only [decide_eq_true_eq, decide_eq_false_iff_not, Bool.not_true, Bool.not_false, Bool.not_eq_true', Bool.not_eq_false', Int.not_lt, Int.not_le, Classical.not_not, ne_eq] at hc) <;> first | (exfalso; first | contradiction | (first | omega | (simp at *; done)); done) | (conv => (arg 5; try tactic => exact nrm))) | (refine AL.gs0 rfl rfl (fun hc => ?_) (fun hc => ?_) <;> (try simp only [decide_eq_true_eq, decide_eq_false_iff_not, Bool.not_true, Bool.not_false, Bool.not_eq_true', Bool.not_eq_false', Int.not_lt, Int.not_le, Classical.not_not, ne_eq] at hc) <;> first | (exfalso; first | contradiction | (first | omega | (simp at *; done)); done) | (conv => (arg 5; try tactic => exact nrm))))
        | ((first | ((with_reducible refine AL.k_move ?_); first | (refine AL.q rfl (OQ.move (by conv => lhs; whnf)) ?_)) | ((with_reducible refine AL.k_assign ?_); first | (refine AL.q rfl (OQ.assign (by conv => lhs; whnf)) ?_)) | ((with_reducible refine AL.k_call ?_); first | refine AL.q rfl (OQ.lenS (xt := 108) (r := (none, 4, true)) rfl (by kernel_rfl)) ?_) | ((with_reducible refine AL.k_binOp ?_); first | refine AL.q rfl (OQ.gtr rfl rfl) ?_ | refine AL.q rfl (OQ.eql rfl rfl) ?_ | refine AL.q rfl (OQ.neq rfl rfl) ?_ | refine AL.q rfl (OQ.lss rfl rfl) ?_ | refine AL.q rfl (OQ.muli rfl rfl (by omega)) ?_ | refine AL.q rfl (OQ.mul rfl rfl) ?_ | refine AL.q rfl (OQ.addi rfl rfl (by omega)) ?_ | refine AL.q rfl (OQ.add rfl rfl) ?_) | ((with_reducible refine AL.k_extract ?_); first | refine AL.q rfl (OQ.extract rfl rfl) ?_) | ((with_reducible refine AL.k_unOp ?_); first | refine AL.q rfl (OQ.not rfl) ?_) | ((with_reducible refine AL.k_pick ?_); first | (refine AL.q rfl (OQ.pickT rfl (by with_reducible rfl) (by conv => lhs; whnf)) ?_) | (refine AL.q rfl (OQ.pickF rfl (by with_reducible rfl) (by conv => lhs; whnf)) ?_)) | ((with_reducible refine AL.k_indexAddr ?_); first | refine AL.q rfl (OQ.idxAddr (ty := 108) (z := 4) (g := true) rfl rfl (by kernel_rfl) (by omega) (by omega)) ?_) | ((with_reducible refine AL.k_fieldAddr ?_); first | refine AL.q rfl (OQ.fieldA (ty := 117) (i := 2) (n := 1) (off := 2) (g := false) rfl (by kernel_rfl) (by decide)) ?_ | refine AL.q rfl (OQ.fieldA (ty := 117) (i := 3) (n := 1) (off := 3) (g := false) rfl (by kernel_rfl) (by decide)) ?_) | ((with_reducible refine AL.k_load ?_); first | (refine AL.q rfl (OQ.load1 (ty := 3) rfl (by kernel_rfl) (by conv => lhs; whnf)) ?_))); (conv => (arg 5; try tactic => exact nrm)))
        | ((first | first | refine AL.pcall (g := 15) rfl (by kernel_rfl) rfl (HA _) ?_ | refine AL.pcall (g := 55) rfl (by kernel_rfl) rfl (H1 _ _ (.blk 2 _ rfl rfl rfl)) ?_ | refine AL.pcall (g := 56) rfl (by kernel_rfl) rfl (HR _ _ (.blk 0 _ rfl rfl rfl)) ?_ | refine AL.pcall (g := 57) rfl (by kernel_rfl) rfl (H2 (by omega) _ _ (.blk 0 _ rfl rfl rfl)) ?_ | refine AL.pcall (g := 58) rfl (by kernel_rfl) rfl (HI _) ?_); (conv => (arg 5; try tactic => exact nrm)))
        | ((first | ((with_reducible refine AL.k_call ?_); first | refine AL.w rfl (OW.append (n := 0) (c := 0) (b := 1) (blk := ⟨[], true, 4⟩) (z := 4) (by' := 32) (zs := [.int .i64 0, .int .i64 0, .int .i64 0, .int .i64 0]) (e := 117) rfl rfl (by kernel_rfl) (by kernel_rfl) (by kernel_rfl) rfl (by kernel_rfl) (by omega) rfl rfl rfl (by decide) (Nat.le_refl _) hld hone (by omega) (by omega)) ?_) | ((with_reducible refine AL.k_buildSlice ?_); first | refine AL.w rfl (OW.buildSl0 (ty := 108) (z := (none, 4, true)) (by kernel_rfl)) ?_) | ((with_reducible refine AL.k_store ?_); first | (refine AL.w rfl (OW.store (ty := 3) (n := 1) rfl (by conv => lhs; whnf) rfl rfl (by kernel_rfl) rfl rfl (by decide) rfl (Nat.le_of_ble_eq_true rfl) (by intro r h; cases h)) ?_)) | refine AL.w rfl (OW.makeSl (st := 109) (e := 3) (z := 1) (by' := 8) (zs := [.int .i64 0]) rfl (by kernel_rfl) (by kernel_rfl) (by kernel_rfl) rfl rfl (by kernel_rfl) (by decide) (by omega) (by omega)) ?_); (conv => (arg 5; try tactic => exact nrm)); (conv => (arg 6; try tactic => exact nrm)))
        | (refine AL.bs rfl (fun hc => ?_) (fun hc => ?_) <;> (fail_if_success (with_reducible exact lit_no hc)) <;> (try simp only [decide_eq_true_eq, decide_eq_false_iff_not, Bool.not_true, Bool.not_false, Bool.not_eq_true', Bool.not_eq_false', Int.not_lt, Int.not_le, Classical.not_not, ne_eq] at hc) <;> first | (exfalso; first | contradiction | (first | omega | (simp at *; done)); done) | (conv => (arg 5; try tactic => exact nrm)))
        | refine AL.nil ?_)
      | ((with_reducible refine AW.on ?_); first
        | refine AW.seq ?_
        | refine AW.skip ?_
        | refine AW.exit ?_
        | refine AW.ret ?_
        | refine AW.block ?_
        | (refine AW.region (id := 2) ?_; exfalso; first | omega | (simp at *; done); done)
        | (refine AW.region (id := 4) ?_; exfalso; first | omega | (simp at *; done); done)
        | (refine AW.region (id := 11) ?_; exfalso; first | omega | (simp at *; done); done)
        | (refine AW.region (id := 14) ?_; exfalso; first | omega | (simp at *; done); done)
        | refine AW.region ?_
        | (refine AW.conds rfl (fun hc => ?_) (fun hc => ?_) <;> (try simp only [decide_eq_true_eq, decide_eq_false_iff_not, Bool.not_true, Bool.not_false, Bool.not_eq_true', Bool.not_eq_false', Int.not_lt, Int.not_le, Classical.not_not, ne_eq] at hc) <;> first | (exfalso; first | contradiction | (first | omega | (simp at *; done)); done) | skip))
      | ((with_reducible refine FinP.on ?_); (first | refine FinP.ret (.tmp (by conv => lhs; whnf) .nil) ?_ rfl | refine FinP.end (.tmp (by conv => lhs; whnf) .nil) ?_ rfl); (try simp only [pack, List.drop, List.take]); all_goals (rfl)))
theorem RmL_y {l : List Scp} (hR : CRight l) (a b : Int) (hc : csE l = 0) (A : List Int) (hA : A.length = l.length)
    (H1 : ∀ (m : Mem) (i : Nat) (k : Blk), m.at i = some k → k.cells = flatP l → ACalls Try.prog 55 [.slice (some ⟨i, 0, none⟩) l.length INF] m (.tuple #[.slice (some ⟨m.length, 0, none⟩) l.length INF, .int .i64 0]) (m ++ [some ⟨flatI A, true, 1⟩]))
    (H2 : ∀ (m : Mem) (i : Nat) (k : Blk), m.at i = some k → k.cells = flatP l → ACalls Try.prog 57 [.slice (some ⟨i, 0, none⟩) l.length INF] m (.tuple #[.slice (some ⟨m.length, 0, none⟩) l.length INF, .int .i64 0]) (m ++ [some ⟨flatI A, true, 1⟩]))
    (H3 : (-50 ≤ a ∧ a ≤ 50) → (-50 ≤ b ∧ b ≤ 50) → ∀ (m : Mem) (i : Nat) (k : Blk), m.at i = some k → k.cells = flatP (smL l a b l.length) → ACalls Try.prog 55 [.slice (some ⟨i, 0, none⟩) l.length INF] m (.tuple #[.slice (some ⟨m.length, 0, none⟩) l.length INF, .int .i64 0]) (m ++ [some ⟨flatI (List.replicate l.length 0), true, 1⟩])) (z : Nat) :
    PCalls Try.prog 12 [.slice (some ⟨0, 0, none⟩) l.length INF, .int .i64 a, .int .i64 b] [some ⟨flatP l, false, z⟩] (.bool true) := by
  have hn1 := hR.n1
  have hn2 := hR.n24
  have HA := awake_q
  have HR := fun (m : Mem) (v : Value) (hS : SlP m v l) => rCheckScreen_q l hS (by omega)
  rw [hc] at HR
  have HI := fun (m : Mem) (x y : Nat) (k0 k1 : Blk) (h0 : m.at x = some k0) (h1 : m.at y = some k1) (hc0 : k0.cells = flatI A) (hc1 : k1.cells = flatI A) => Ints_q (c := INF) A (by omega) hA h0 h1 hc0 hc1
  have HI2 := fun (m : Mem) (x y : Nat) (k0 k1 : Blk) (h0 : m.at x = some k0) (h1 : m.at y = some k1) (hc0 : k0.cells = flatI (List.replicate l.length 0)) (hc1 : k1.cells = flatI (List.replicate l.length 0)) => Ints_q (n := l.length) (c := l.length) (List.replicate l.length 0) (by simp; omega) (by simp) h0 h1 hc0 hc1
  have HW1 := fun m => rWithin_q a (-50) 50 m
  have HW2 := fun m => rWithin_q b (-50) 50 m
  have hlen := flatP_len l
  have hone : (flatP l).all Ab.one = true := one_of_scal (flatP_scal l)
  have hld : ∀ {m : Mem} {x : Nat} {k : Blk} (hb : m.at x = some k) (hc : k.cells = flatP l), Mem.ld m x 0 (l.length * 4) = some (flatP l) := fun hb hc => by
    unfold Mem.ld
    rw [hb]
    simp [hc, hlen, List.take_of_length_le]
  have hst := sm_step l a b
  have hs0 := smL_0 l a b
  have hsl : ∀ k, (flatP (smL l a b k)).length = l.length * 4 := fun k => by rw [flatP_len, smL_len]
  have eh : ∀ k : Nat, k < l.length → (flatP (smL l a b k))[k * 4 + 2]? = some (.int .i64 (sp_ l k).h) := fun k hk => by
    rw [flatSp_get _ k 2 (by decide) (by rw [smL_len]; exact hk), smL_at l a b k k hk, if_neg (by omega)]; rfl
  have hmb : (-50 ≤ a ∧ a ≤ 50) → (-50 ≤ b ∧ b ≤ 50) → ∀ k, k < l.length → -10000 ≤ a * (sp_ l k).h ∧ a * (sp_ l k).h ≤ 10000 := fun ha hb k hk => mulc 10000 ha (hR.bd k hk).2.2.1 (by decide)
  refine PCalls.enterJ (t := [.slice (some ⟨0, 0, none⟩) (l.length) INF, .int .i64 a, .int .i64 b, undef, undef, undef, undef, undef, undef, undef, undef, undef, undef, undef, undef, undef, undef, undef, undef, undef, undef, undef, undef, undef, undef, undef, undef, undef, undef, undef, undef, undef, undef, undef, undef, undef, undef, undef, undef, undef, undef, undef, undef, undef, undef, undef, undef, undef, undef, undef, undef, undef, undef, undef, undef, undef, undef, undef, undef, undef, undef, undef, undef, undef, undef, undef, undef, undef, undef, undef, undef, undef, undef, undef, undef, undef, undef, undef, undef, undef, undef, undef, undef, undef, undef, undef, undef, undef, undef, undef, undef, undef, undef]) Try.func12 rfl (ro1 _ rfl) rfl fun E hE => ?_
  repeat' (first
    | with_reducible refine Then.n ?_
    | with_reducible refine Then.r ?_
    | with_reducible refine Then.x ?_
    | with_reducible refine InB.n ?_
    | with_reducible refine InB.r ?_
    | with_reducible refine InB.hit ?_
    | with_reducible refine InB.miss (by decide) ?_
    | ((with_reducible refine AL.on ?_); first
      | (refine AL.gd rfl ?_; first | (refine AL.gskip rfl rfl ?_; (conv => (arg 5; try tactic => exact nrm))) | (refine AL.gs1 rfl rfl (fun hc => ?_) (fun hc => ?_) <;> (try simp only [decide_eq_true_eq, decide_eq_false_iff_not, Bool.not_true, Bool.not_false, Bool.not_eq_true', Bool.not_eq_false', Int.not_lt, Int.not_le, Classical.not_not, ne_eq] at hc) <;> first | (exfalso; first | contradiction | (first | omega | (simp at *; done)); done) | (conv => (arg 5; try tactic => exact nrm))) | (refine AL.gs0 rfl rfl (fun hc => ?_) (fun hc => ?_) <;> (try simp only [decide_eq_true_eq, decide_eq_false_iff_not, Bool.not_true, Bool.not_false, Bool.not_eq_true', Bool.not_eq_false', Int.not_lt, Int.not_le, Classical.not_not, ne_eq] at hc) <;> first | (exfalso; first | contradiction | (first | omega | (simp at *; done)); done) | (conv => (arg 5; try tactic => exact nrm))))
      | ((first | ((with_reducible refine AL.k_move ?_); first | (refine AL.q rfl (OQ.move (by conv => lhs; whnf)) ?_)) | ((with_reducible refine AL.k_assign ?_); first | (refine AL.q rfl (OQ.assign (by conv => lhs; whnf)) ?_)) | ((with_reducible refine AL.k_call ?_); first | refine AL.q rfl (OQ.lenS (xt := 108) (r := (none, 4, true)) rfl (by kernel_rfl)) ?_) | ((with_reducible refine AL.k_binOp ?_); first | refine AL.q rfl (OQ.gtr rfl rfl) ?_ | refine AL.q rfl (OQ.eql rfl rfl) ?_ | refine AL.q rfl (OQ.neq rfl rfl) ?_ | refine AL.q rfl (OQ.lss rfl rfl) ?_ | refine AL.q rfl (OQ.muli rfl rfl (by omega)) ?_ | refine AL.q rfl (OQ.mul rfl rfl) ?_ | refine AL.q rfl (OQ.addi rfl rfl (by omega)) ?_ | refine AL.q rfl (OQ.add rfl rfl) ?_) | ((with_reducible refine AL.k_extract ?_); first | refine AL.q rfl (OQ.extract rfl rfl) ?_) | ((with_reducible refine AL.k_unOp ?_); first | refine AL.q rfl (OQ.not rfl) ?_) | ((with_reducible refine AL.k_pick ?_); first | (refine AL.q rfl (OQ.pickT rfl (by with_reducible rfl) (by conv => lhs; whnf)) ?_) | (refine AL.q rfl (OQ.pickF rfl (by with_reducible rfl) (by conv => lhs; whnf)) ?_)) | ((with_reducible refine AL.k_load ?_); first | (refine AL.q rfl (OQ.load1 (ty := 3) rfl (by kernel_rfl) (by first | (first | exact eh _ (by omega)) | (conv => lhs; whnf))) ?_))); (conv => (arg 5; try tactic => exact nrm)))
      | ((first | ((with_reducible refine AL.k_call ?_); first | refine AL.pcall (g := 15) rfl (by kernel_rfl) rfl (HA _) ?_ | refine AL.pcall (g := 56) rfl (by kernel_rfl) rfl (HR _ _ (.blk 0 _ rfl rfl rfl)) ?_ | (refine AL.pcall (g := 58) rfl (by kernel_rfl) rfl ((by first | exact HI _ _ _ _ _ rfl rfl rfl rfl | exact HI2 _ _ _ _ _ rfl rfl rfl (mk1 (fun i => by have h1 : i % 1 = 0 := Nat.mod_one i; simp [h1])))) ?_) | refine AL.pcall (g := 24) rfl (by kernel_rfl) rfl ((by first | exact HW1 _ | exact HW2 _)) ?_) | ((with_reducible refine AL.k_indexAddr ?_); first | refine AL.q rfl (OQ.idxAddr (ty := 108) (z := 4) (g := true) rfl rfl (by kernel_rfl) (by omega) (by omega)) ?_) | ((with_reducible refine AL.k_fieldAddr ?_); first | refine AL.q rfl (OQ.fieldA (ty := 117) (i := 2) (n := 1) (off := 2) (g := false) rfl (by kernel_rfl) (by decide)) ?_ | refine AL.q rfl (OQ.fieldA (ty := 117) (i := 3) (n := 1) (off := 3) (g := false) rfl (by kernel_rfl) (by decide)) ?_)); (conv => (arg 5; try tactic => exact nrm)))
      | ((first | ((with_reducible refine AL.k_call ?_); first | refine AL.w rfl (by first | exact (OW.append (n := 0) (c := 0) (b := 1) (blk := ⟨[], true, 4⟩) (z := 4) (by' := 32) (zs := [.int .i64 0, .int .i64 0, .int .i64 0, .int .i64 0]) (e := 117) rfl rfl (by kernel_rfl) (by kernel_rfl) (by kernel_rfl) rfl (by kernel_rfl) (by omega) rfl rfl rfl (by decide) (Nat.le_refl _) (hld rfl rfl) hone (by omega) (by omega)) | exact (OW.append (n := 0) (c := 0) (b := 5) (blk := ⟨[], true, 4⟩) (z := 4) (by' := 32) (zs := [.int .i64 0, .int .i64 0, .int .i64 0, .int .i64 0]) (e := 117) rfl rfl (by kernel_rfl) (by kernel_rfl) (by kernel_rfl) rfl (by kernel_rfl) (by omega) rfl rfl rfl (by decide) (Nat.le_refl _) (hld rfl rfl) hone (by omega) (by omega))) ?_ | refine AL.acall (g := 55) rfl (by kernel_rfl) rfl ((by first | exact H1 _ 2 _ rfl rfl | exact H3 (rngB_true.1 ‹rngB a _ _ = true›) (rngB_true.1 ‹rngB b _ _ = true›) _ 6 _ rfl rfl)) ?_ | refine AL.acall (g := 57) rfl (by kernel_rfl) rfl ((H2 _ 0 _ rfl rfl)) ?_) | ((with_reducible refine AL.k_buildSlice ?_); first | refine AL.w rfl (OW.buildSl0 (ty := 108) (z := (none, 4, true)) (by kernel_rfl)) ?_) | ((with_reducible refine AL.k_store ?_); first | (refine AL.w rfl (OW.store (ty := 3) (n := 1) rfl (by conv => lhs; whnf) rfl rfl (by kernel_rfl) rfl rfl (by decide) rfl (by first | exact Nat.le_of_ble_eq_true rfl | ((simp only [hsl]; omega))) (by intro r h; cases h)) ?_)) | refine AL.w rfl (OW.makeSl (st := 109) (e := 3) (z := 1) (by' := 8) (zs := [.int .i64 0]) rfl (by kernel_rfl) (by kernel_rfl) (by kernel_rfl) rfl rfl (by kernel_rfl) (by decide) (by omega) (by omega)) ?_); (conv => (arg 5; try tactic => exact nrm)); (conv => (arg 6; try tactic => exact nrm)))
      | (refine AL.bs rfl (fun hc => ?_) (fun hc => ?_) <;> (fail_if_success (with_reducible exact lit_no hc)) <;> (try simp only [decide_eq_true_eq, decide_eq_false_iff_not, Bool.not_true, Bool.not_false, Bool.not_eq_true', Bool.not_eq_false', Int.not_lt, Int.not_le, Classical.not_not, ne_eq] at hc) <;> first | (exfalso; first | contradiction | (first | omega | (simp at *; done)); done) | (conv => (arg 5; try tactic => exact nrm)))
      | refine AL.nil ?_)
    | ((with_reducible refine AW.on ?_); first
      | refine AW.seq ?_
      | refine AW.skip ?_
      | refine AW.exit ?_
      | refine AW.ret ?_
      | ((refine AW.block (id := 0) ?_); (refine AW.wk (Wk.forget [true, true, true, false, false, false, false, false, false, false, false, true, true, false, false, false, false, false, false, false, false, false, false, false, false, false, false, false, false, false, false, false, false, false, false, false, false, false, false, false, false, false, false, false, false, false, false, false, false, false, false, false, false, false, false, false, false, false, false, false, false, false, false, false, false, false, false, false, false, false, false, false, false, false, false, false, false, false, false, false, false, false, false, false, false, false, false, false, false, false, false, false, false] rfl) ?_); (conv => (arg 4; simp only [fgt, if_true, if_false, Bool.false_eq_true])); (refine AW.loop (fun n t' m => ∃ k : Nat, n = l.length - k ∧ k ≤ l.length ∧ t' = [.slice (some ⟨0, 0, none⟩) (l.length) INF, .int .i64 (a), .int .i64 (b), junk, junk, junk, junk, junk, junk, junk, junk, .slice (some ⟨6, 0, none⟩) (l.length) INF, .int .i64 (k), junk, junk, junk, junk, junk, junk, junk, junk, junk, junk, junk, junk, junk, junk, junk, junk, junk, junk, junk, junk, junk, junk, junk, junk, junk, junk, junk, junk, junk, junk, junk, junk, junk, junk, junk, junk, junk, junk, junk, junk, junk, junk, junk, junk, junk, junk, junk, junk, junk, junk, junk, junk, junk, junk, junk, junk, junk, junk, junk, junk, junk, junk, junk, junk, junk, junk, junk, junk, junk, junk, junk, junk, junk, junk, junk, junk, junk, junk, junk, junk] ∧ m = [some ⟨flatP l, false, z⟩, none, some ⟨flatP l, true, 4⟩, some ⟨flatI A, true, 1⟩, some ⟨flatI A, true, 1⟩, none, some ⟨flatP (smL l a b k), true, 4⟩]) (l.length) (by exact ⟨0, rfl, Nat.zero_le _, rfl, by first | (rw [hs0]; done) | (rw [hs0]; rfl)⟩) ?_); (rintro n t' m ⟨k, rfl, hk, rfl, rfl⟩))
      | refine AW.block ?_
      | (refine AW.region (id := 2) ?_; exfalso; first | omega | (simp at *; done); done)
      | (refine AW.region (id := 4) ?_; exfalso; first | omega | (simp at *; done); done)
      | (refine AW.region (id := 11) ?_; exfalso; first | omega | (simp at *; done); done)
      | (refine AW.region (id := 18) ?_; ((have hb1 := rngB_true.1 ‹rngB a _ _ = true›; have hb2 := rngB_true.1 ‹rngB b _ _ = true›; have hb := hmb hb1 hb2 k (by omega))))
      | (refine AW.region (id := 19) ?_; ((obtain rfl : k = l.length := (by omega))))
      | refine AW.region ?_
      | (refine AW.conds rfl (fun hc => ?_) (fun hc => ?_) <;> (try simp only [decide_eq_true_eq, decide_eq_false_iff_not, Bool.not_true, Bool.not_false, Bool.not_eq_true', Bool.not_eq_false', Int.not_lt, Int.not_le, Classical.not_not, ne_eq] at hc) <;> first | (exfalso; first | contradiction | (first | omega | (simp at *; done)); done) | skip))
    | ((with_reducible refine ex_on ?_); (refine ⟨l.length - (k + 1), _, _, by omega, ?_, k + 1, rfl, by omega, rfl, rfl⟩; have hcell := hst k (by omega); exact Wk.keep 7 [] (by rw [hE]; exact (by decide : 1 ≤ 7)) rfl rfl (by repeat (first | exact RenT.nil | refine RenT.junk ?_ | refine RenT.val (by first | rfl | with_reducible assumption | (simp only [rn3, rn2, rn1, kσ]; done)) (by first | rfl | assumption | (simp [ok3, ok2, ok1]; done)) ?_)) ⟨⟨_, rfl, rfl, rfl, .inl ⟨rfl, flatP_scal l⟩⟩, ⟨_, rfl, rfl, rfl, .inl ⟨rfl, flatP_scal l⟩⟩, ⟨_, rfl, rfl, rfl, .inl ⟨rfl, flatI_scal _⟩⟩, ⟨_, rfl, rfl, rfl, .inl ⟨rfl, flatI_scal _⟩⟩, ⟨_, rfl, rfl, rfl, .inl ⟨hcell.symm, flatP_scal _⟩⟩, trivial⟩))
    | ((with_reducible refine FinJ.on ?_); first | exact FinJ.ret (.tmp (by conv => lhs; whnf) .nil) (jle_flat rfl) | exact FinJ.end (.tmp (by conv => lhs; whnf) .nil) (jle_flat rfl)))
theorem RmL_q {v : Value} {m : Mem} {l : List Scp} (hS : SlP m v l) (hl : (l.length : Int) ≤ 9223372036854775807) (a b : Int) : PCalls Try.prog 12 [v, .int .i64 a, .int .i64 b] m (.bool true) := by
  refine SlG.up (us := [.int .i64 a, .int .i64 b]) hS (flatP_scal l) rfl rfl fun v m0 h => ?_
  by_cases h26 : 26 < l.length
  · have HA := awake_q
    rcases h with ⟨rfl, rfl, h3⟩ | ⟨rfl, rfl, h3⟩ | ⟨z, rfl, rfl⟩
    · omega
    · omega
    refine PCalls.enter (t := [.slice (some ⟨0, 0, none⟩) (l.length) INF, .int .i64 a, .int .i64 b, undef, undef, undef, undef, undef, undef, undef, undef, undef, undef, undef, undef, undef, undef, undef, undef, undef, undef, undef, undef, undef, undef, undef, undef, undef, undef, undef, undef, undef, undef, undef, undef, undef, undef, undef, undef, undef, undef, undef, undef, undef, undef, undef, undef, undef, undef, undef, undef, undef, undef, undef, undef, undef, undef, undef, undef, undef, undef, undef, undef, undef, undef, undef, undef, undef, undef, undef, undef, undef, undef, undef, undef, undef, undef, undef, undef, undef, undef, undef, undef, undef, undef, undef, undef, undef, undef, undef, undef, undef, undef]) Try.func12 rfl (ro1 _ rfl) rfl fun E => ?_
    repeat' (first
      | with_reducible refine Then.n ?_
      | with_reducible refine Then.r ?_
      | with_reducible refine Then.x ?_
      | with_reducible refine InB.n ?_
      | with_reducible refine InB.r ?_
      | with_reducible refine InB.hit ?_
      | with_reducible refine InB.miss (by decide) ?_
      | ((with_reducible refine AL.on ?_); first
        | (refine AL.gd rfl ?_; first | (refine AL.gskip rfl rfl ?_; (conv => (arg 5; try tactic => exact nrm))) | (refine AL.gs1 rfl rfl (fun hc => ?_) (fun hc => ?_) <;> (try simp only [decide_eq_true_eq, decide_eq_false_iff_not, Bool.not_true, Bool.not_false, Bool.not_eq_true', Bool.not_eq_false', Int.not_lt, Int.not_le, Classical.not_not, ne_eq] at hc) <;> first | (exfalso; first | contradiction | (first | omega | (simp at *; done)); done) | (conv => (arg 5; try tactic => exact nrm))) | (refine AL.gs0 rfl rfl (fun hc => ?_) (fun hc => ?_) <;> (try simp only [decide_eq_true_eq, decide_eq_false_iff_not, Bool.not_true, Bool.not_false, Bool.not_eq_true', Bool.not_eq_false', Int.not_lt, Int.not_le, Classical.not_not, ne_eq] at hc) <;> first | (exfalso; first | contradiction | (first | omega | (simp at *; done)); done) | (conv => (arg 5; try tactic => exact nrm))))
        | ((first | ((with_reducible refine AL.k_move ?_); first | (refine AL.q rfl (OQ.move (by conv => lhs; whnf)) ?_)) | ((with_reducible refine AL.k_assign ?_); first | (refine AL.q rfl (OQ.assign (by conv => lhs; whnf)) ?_)) | ((with_reducible refine AL.k_call ?_); first | refine AL.q rfl (OQ.lenS (xt := 108) (r := (none, 4, true)) rfl (by kernel_rfl)) ?_) | ((with_reducible refine AL.k_binOp ?_); first | refine AL.q rfl (OQ.gtr rfl rfl) ?_ | refine AL.q rfl (OQ.eql rfl rfl) ?_ | refine AL.q rfl (OQ.neq rfl rfl) ?_ | refine AL.q rfl (OQ.lss rfl rfl) ?_ | refine AL.q rfl (OQ.muli rfl rfl (by omega)) ?_ | refine AL.q rfl (OQ.mul rfl rfl) ?_ | refine AL.q rfl (OQ.addi rfl rfl (by omega)) ?_ | refine AL.q rfl (OQ.add rfl rfl) ?_) | ((with_reducible refine AL.k_extract ?_); first | refine AL.q rfl (OQ.extract rfl rfl) ?_) | ((with_reducible refine AL.k_unOp ?_); first | refine AL.q rfl (OQ.not rfl) ?_) | ((with_reducible refine AL.k_pick ?_); first | (refine AL.q rfl (OQ.pickT rfl (by with_reducible rfl) (by conv => lhs; whnf)) ?_) | (refine AL.q rfl (OQ.pickF rfl (by with_reducible rfl) (by conv => lhs; whnf)) ?_)) | ((with_reducible refine AL.k_indexAddr ?_); first | refine AL.q rfl (OQ.idxAddr (ty := 108) (z := 4) (g := true) rfl rfl (by kernel_rfl) (by omega) (by omega)) ?_) | ((with_reducible refine AL.k_fieldAddr ?_); first | refine AL.q rfl (OQ.fieldA (ty := 117) (i := 2) (n := 1) (off := 2) (g := false) rfl (by kernel_rfl) (by decide)) ?_ | refine AL.q rfl (OQ.fieldA (ty := 117) (i := 3) (n := 1) (off := 3) (g := false) rfl (by kernel_rfl) (by decide)) ?_) | ((with_reducible refine AL.k_load ?_); first | (refine AL.q rfl (OQ.load1 (ty := 3) rfl (by kernel_rfl) (by conv => lhs; whnf)) ?_))); (conv => (arg 5; try tactic => exact nrm)))
        | ((first | first | refine AL.pcall (g := 15) rfl (by kernel_rfl) rfl (HA _) ?_); (conv => (arg 5; try tactic => exact nrm)))
        | ((first | ((with_reducible refine AL.k_call ?_); first | refine AL.w rfl (by first | exact OW.appendNil (e := 117) (z := 4) (zs := [.int .i64 0, .int .i64 0, .int .i64 0, .int .i64 0]) (by' := 32) rfl rfl (by kernel_rfl) (by kernel_rfl) (by kernel_rfl) rfl (by kernel_rfl) (by decide) rfl (by decide) (by decide) | exact OW.appendL (e := 117) (z := 4) (zs := [.int .i64 0, .int .i64 0, .int .i64 0, .int .i64 0]) (by' := 32) rfl rfl (by kernel_rfl) (by kernel_rfl) (by kernel_rfl) rfl (by kernel_rfl) (by decide) rfl rfl rfl (by decide) (by omega) rfl rfl (by omega) (by omega)) ?_) | ((with_reducible refine AL.k_buildSlice ?_); first | refine AL.w rfl (OW.buildSl0 (ty := 108) (z := (none, 4, true)) (by kernel_rfl)) ?_) | ((with_reducible refine AL.k_store ?_); first | (refine AL.w rfl (OW.store (ty := 3) (n := 1) rfl (by conv => lhs; whnf) rfl rfl (by kernel_rfl) rfl rfl (by decide) rfl (Nat.le_of_ble_eq_true rfl) (by intro r h; cases h)) ?_)) | refine AL.w rfl (OW.makeSl (st := 109) (e := 3) (z := 1) (by' := 8) (zs := [.int .i64 0]) rfl (by kernel_rfl) (by kernel_rfl) (by kernel_rfl) rfl rfl (by kernel_rfl) (by decide) (by omega) (by omega)) ?_); (conv => (arg 5; try tactic => exact nrm)); (conv => (arg 6; try tactic => exact nrm)))
        | (refine AL.bs rfl (fun hc => ?_) (fun hc => ?_) <;> (fail_if_success (with_reducible exact lit_no hc)) <;> (try simp only [decide_eq_true_eq, decide_eq_false_iff_not, Bool.not_true, Bool.not_false, Bool.not_eq_true', Bool.not_eq_false', Int.not_lt, Int.not_le, Classical.not_not, ne_eq] at hc) <;> first | (exfalso; first | contradiction | (first | omega | (simp at *; done)); done) | (conv => (arg 5; try tactic => exact nrm)))
        | refine AL.nil ?_)
      | ((with_reducible refine AW.on ?_); first
        | refine AW.seq ?_
        | refine AW.skip ?_
        | refine AW.exit ?_
        | refine AW.ret ?_
        | refine AW.block ?_
        | (refine AW.region (id := 2) ?_; exfalso; first | omega | (simp at *; done); done)
        | (refine AW.region (id := 5) ?_; exfalso; first | omega | (simp at *; done); done)
        | refine AW.region ?_
        | (refine AW.conds rfl (fun hc => ?_) (fun hc => ?_) <;> (try simp only [decide_eq_true_eq, decide_eq_false_iff_not, Bool.not_true, Bool.not_false, Bool.not_eq_true', Bool.not_eq_false', Int.not_lt, Int.not_le, Classical.not_not, ne_eq] at hc) <;> first | (exfalso; first | contradiction | (first | omega | (simp at *; done)); done) | skip))
      | ((with_reducible refine FinP.on ?_); (first | refine FinP.ret (.tmp (by conv => lhs; whnf) .nil) ?_ rfl | refine FinP.end (.tmp (by conv => lhs; whnf) .nil) ?_ rfl); (try simp only [pack, List.drop, List.take]); all_goals (rfl)))
  by_cases hc : csE l = 0
  · have hR := csE_right hc
    have hn1 := hR.n1
    by_cases h0 : lnD (prS l) = 0
    · exact RmL_e (by omega) a b 0 30 (by decide) hc (fun m v hS => Removed_0 hS hR h0) (fun _ m v hS => rRemoved_0 hS hR h0) (.inl rfl) v m0 h
    · rcases h with ⟨rfl, rfl, h3⟩ | ⟨rfl, rfl, h3⟩ | ⟨z, rfl, rfl⟩
      · omega
      · omega
      refine RmL_y hR a b hc (rmL l l.length) (rmL_len l _)
        (fun m i k g1 g2 => ACalls.viaS [i] [] [some ⟨flatI (rmL l l.length), true, 1⟩] (Removed_y hR h0 k.esz) (m := m) (args := [.slice (some ⟨i, 0, none⟩) l.length INF]) (v := .tuple #[.slice (some ⟨m.length, 0, none⟩) l.length INF, .int .i64 0])
          ⟨⟨k, g1, rfl, (fun h => nomatch h), .inl ⟨g2, flatP_scal l⟩⟩, trivial⟩ (by simp) ⟨⟨_, rfl, rfl⟩, ⟨rfl, rfl, rfl, .inl ⟨rfl, flatI_scal _⟩⟩, trivial⟩ rfl rfl (by simp [rn3, rn2, rn1, τn]) rfl)
        (fun m i k g1 g2 => ACalls.viaS [i] [] [some ⟨flatI (rmL l l.length), true, 1⟩] (rRemoved_y hR h0 k.esz) (m := m) (args := [.slice (some ⟨i, 0, none⟩) l.length INF]) (v := .tuple #[.slice (some ⟨m.length, 0, none⟩) l.length INF, .int .i64 0])
          ⟨⟨k, g1, rfl, (fun h => nomatch h), .inl ⟨g2, flatP_scal l⟩⟩, trivial⟩ (by simp) ⟨⟨_, rfl, rfl⟩, ⟨rfl, rfl, rfl, .inl ⟨rfl, flatI_scal _⟩⟩, trivial⟩ rfl rfl (by simp [rn3, rn2, rn1, τn]) rfl)
        (fun ha hb m i k g1 g2 => ?_) z
      have hR' := smL_right hR ha hb
      have h0' : lnD (prS (smL l a b l.length)) ≠ 0 := by rw [lnD_fst (prS_sm l a b).1]; exact h0
      have hy := Removed_y hR' h0' k.esz
      rw [smL_len, rm_zero h0] at hy
      exact ACalls.viaS [i] [] [some ⟨flatI (List.replicate l.length 0), true, 1⟩] hy (m := m) (args := [.slice (some ⟨i, 0, none⟩) l.length INF]) (v := .tuple #[.slice (some ⟨m.length, 0, none⟩) l.length INF, .int .i64 0])
          ⟨⟨k, g1, rfl, (fun h => nomatch h), .inl ⟨g2, flatP_scal _⟩⟩, trivial⟩ (by simp) ⟨⟨_, rfl, rfl⟩, ⟨rfl, rfl, rfl, .inl ⟨rfl, flatI_scal _⟩⟩, trivial⟩ rfl rfl (by simp [rn3, rn2, rn1, τn]) rfl
  · exact RmL_e (by omega) a b (csE l) (csE l) hc rfl (fun m v hS => Removed_e _ hS (by omega) rfl hc) (fun h => absurd h hc) (.inr rfl) v m0 h
end Go.Proofs.Ytnocdnhhlppahaa
end

section
namespace Go.Proofs.Ytnocdnhhlppahaa.SeriesRemoves
open Go.ChangeShapes Go.WideShapes Go.ChangeAt Go Go.RowKit Go.Ab Go.Sr Go.Proofs.Ytnocdnhhlppahaa
set_option maxRecDepth 100000
theorem walk {W : World} (a : Option Addr) (l : List Scp) (cap : Nat) (hcap : l.length ≤ cap) (hcm : cap ≤ maxLen) (hS : SlX W a (flatP l)) (hz : a = none → cap = 0) (x y : Int) : Calls Try.prog 12 #[.slice a l.length cap, .int .i64 x, .int .i64 y] W fun e w' => e = .returned (.bool true) ∧ Below W.heap.size W w' := by
  refine glueP (us := [.int .i64 x, .int .i64 y]) rfl hS hcap hz fun v m0 h => RmL_q h ?_ x y
  simp only [maxLen] at hcm; omega

set_option maxRecDepth 100000 in
theorem lifted (os : Os) (started : os.Started) (H : Type) (enc : TypeId × Value → H) :
    ReturnsInHanded {} Try.checked os 12 .any (Rows.seriesRemovesSpec.pre6 enc Try.prog Try.f12 Rows.seriesRemovesRow.domain false) (Rows.seriesRemovesSpec.post enc Try.prog Try.f12 false true false false) := by
  refine returnsInHanded_of_change (C := Try.checked) own started (by kernel_rfl) Try.func12
    (ChangeSpec.witness6 (enc := enc) (C := Try.checked) false ⟨#[], #[.slice none 0 0, .int .i64 0, .int .i64 0], []⟩ 8 (by kernel_rfl) (by kernel_rfl) (by kernel_rfl) (by kernel_rfl)) ?_
  intro W base args ds gs before hval0 hW hcnd _
  have hval : ∀ (j : Nat) t v, Try.f12.params[j]? = some t → args[j]? = some v → Value.okWide Try.prog W .any base t v := hval0
  have hW' := hW
  obtain ⟨p, q, hA0, hV, rfl, hfz, hnd⟩ := hW
  have hA : DataW.TrodAll enc Try.prog W 0 (fun _ => true) true Try.f12.params.toList args.toList ds p := hA0
  rw [Try.params12] at hA hval
  obtain ⟨v0, vs0, d0, ds0, p0, q0, hargs, rfl, rfl, h0, r0⟩ := trodAll_cons hA
  obtain ⟨v1, vs1, d1, ds1, p1, q1, rfl, rfl, rfl, h1, r1⟩ := trodAll_cons r0
  obtain ⟨v2, vs2, d2, ds2, p2, q2, rfl, rfl, rfl, h2, r2⟩ := trodAll_cons r1
  obtain ⟨rfl, rfl, rfl⟩ := trodAll_nil r2
  obtain rfl : args = #[v0, v1, v2] := by cases args; simp_all
  obtain ⟨rfl, rfl⟩ := trodVars_none hV
  clear hA0 hval0
  have hlt := hW'.lt
  have g0 := h0
  have g1 := h1
  have g2 := h2
  obtain ⟨a0, l0, cap0, rfl, hcap0, hcm0, hS0, hz0⟩ := open_L (hval 0 108 v0 rfl rfl) h0
  obtain ⟨x1, rfl, -, -, wx1⟩ := open_int Try.underlying3 (hval 1 3 v1 rfl rfl) h1
  obtain ⟨x2, rfl, -, -, wx2⟩ := open_int Try.underlying3 (hval 2 3 v2 rfl rfl) h2
  simp only [List.append_nil] at hW' hlt ⊢
  refine (walk a0 l0 cap0 hcap0 hcm0 hS0 hz0 x1 x2).mono fun e W' ⟨he, hb⟩ => ?_
  subst he
  have stay : ∀ (t : TypeId) v d ps (sp : Nat → Bool), Try.prog.readableRec t = true → t < Try.prog.types.size → DataW.Trod enc Try.prog W 0 (fun _ => true) true t v d ps → (∀ x ∈ ps, x.block < W.heap.size) → (∀ x ∈ ps, sp x.block = true) → DataW.Trod enc Try.prog W' 0 sp true t v d ps :=
    fun t v d ps sp hr ht h hx hs => Go.WideElems.Trod_stays laid hr ht h (fun x hxp => hb.same (hx x hxp)) hs
  exact ⟨_, rfl, post_below (pa := p0 ++ (p1 ++ (p2 ++ []))) (pv := []) hW' (fun _ _ _ => trodAll_mk1 (shut_bool Try.underlying4 true)) (fun sp hs => (trodAll_cons_mk (stay 108 _ _ _ sp (by kernel_rfl) (of_decide_eq_true (by kernel_rfl)) g0 (fun x hx => hlt x (by simp [hx])) (fun x hx => hs x (by simp [hx]))) (trodAll_cons_mk (stay 3 _ _ _ sp (by kernel_rfl) (of_decide_eq_true (by kernel_rfl)) g1 (fun x hx => hlt x (by simp [hx])) (fun x hx => hs x (by simp [hx]))) (trodAll_cons_mk (stay 3 _ _ _ sp (by kernel_rfl) (of_decide_eq_true (by kernel_rfl)) g2 (fun x hx => hlt x (by simp [hx])) (fun x hx => hs x (by simp [hx]))) (trodAll_mk0))))) (fun _ _ => rfl) (by simp)
    hb (ok_one (by kernel_rfl) rfl (okWide_bool_mk Try.underlying4 true))⟩

theorem over : Rows.seriesRemovesRow.holds Try.pinned (OpenSpec.ofChange Rows.seriesRemovesSpec) :=
  OpenClaim.holds_of_wide 12 Try.f12 rfl rfl rfl rfl rfl rfl rfl ⟨rfl, rfl, rfl, rfl, rfl⟩ rfl rfl rfl rfl rfl (by kernel_rfl) Try.func12 (by kernel_rfl)
    (of_decide_eq_true (by kernel_rfl)) (by unfold Func.isWrapper; first | (rw [if_pos (by decide +kernel)]; kernel_rfl) | (rw [if_neg (by decide +kernel)]; exact ⟨rfl, rfl⟩))
    (fun os started H enc _ => lifted os started H enc)

/-- The statement. -/
theorem proved : Rows.SeriesRemovesSaid := over
#print axioms proved
end Go.Proofs.Ytnocdnhhlppahaa.SeriesRemoves
end
