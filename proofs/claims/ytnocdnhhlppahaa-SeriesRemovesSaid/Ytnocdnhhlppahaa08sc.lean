/- Screens: CheckScreen and trends of both sides. -/
import Derived.Test.Ytnocdnhhlppahaa08y
import Derived.Test.Ytnocdnhhlppahaa08r
import Derived.Test.Ytnocdnhhlppahaa08w
import Derived.Test.YtnocdnhhlppahaaAbL
import Derived.Test.YtnocdnhhlppahaaAbS
set_option linter.unusedSimpArgs false
set_option linter.unusedVariables false
namespace Go.Sr
/-- A point of a screen. -/
structure Scp where
  x : Int
  y : Int
  h : Int
  p : Int
def Scp0 : Scp := ⟨0, 0, 0, 0⟩
def sp_ (l : List Scp) (k : Nat) : Scp := l.getD k Scp0
def spB (s : Scp) : Bool := rngB s.x (-200) 200 && (rngB s.y (-200) 200 && (rngB s.h (-200) 200 && rngB s.p (-16000) 16000))
/-- The error of a screen. -/
def csE (l : List Scp) : Int := if l.length = 0 then 10 else if 24 < l.length then 8 else if l.all spB = true then 0 else 2
structure CRight (l : List Scp) : Prop where
  n1 : 1 ≤ l.length
  n24 : l.length ≤ 24
  ok : ∀ k, k < l.length → spB (sp_ l k) = true
theorem sp_get (l : List Scp) (k : Nat) (h : k < l.length) : sp_ l k = l[k] := by unfold sp_; rw [List.getD_eq_getElem?_getD, List.getElem?_eq_getElem h]; rfl
theorem all_sp (l : List Scp) : l.all spB = true ↔ ∀ k, k < l.length → spB (sp_ l k) = true := by
  rw [List.all_eq_true]
  constructor
  · intro h k hk
    rw [sp_get l k hk]
    exact h _ (List.getElem_mem hk)
  · intro h s hs
    obtain ⟨k, hk, rfl⟩ := List.getElem_of_mem hs
    rw [← sp_get l k hk]
    exact h k hk
theorem csE_right {l : List Scp} (h : csE l = 0) : CRight l := by
  unfold csE at h
  split at h
  · omega
  · split at h
    · omega
    · split at h
      · rename_i ha
        exact ⟨by omega, by omega, (all_sp l).1 ha⟩
      · omega
theorem right_csE {l : List Scp} (h : CRight l) : csE l = 0 := by
  unfold csE
  rw [if_neg (by have := h.n1; omega), if_neg (by have := h.n24; omega), if_pos ((all_sp l).2 h.ok)]
theorem CRight.bd {l : List Scp} (h : CRight l) (k : Nat) (hk : k < l.length) : (-200 ≤ (sp_ l k).x ∧ (sp_ l k).x ≤ 200) ∧ (-200 ≤ (sp_ l k).y ∧ (sp_ l k).y ≤ 200) ∧ (-200 ≤ (sp_ l k).h ∧ (sp_ l k).h ≤ 200) ∧ -16000 ≤ (sp_ l k).p ∧ (sp_ l k).p ≤ 16000 := by
  have := h.ok k hk
  unfold spB at this
  simp only [Bool.and_eq_true, rngB_true] at this
  omega
/-- Heights and phases. -/
def prS (l : List Scp) : List (Int × Int) := l.map fun s => (s.h, s.p)
theorem prS_len (l : List Scp) : (prS l).length = l.length := by simp [prS]
theorem prS_pb {l : List Scp} (h : CRight l) : PB (prS l) := fun r hr => by
  obtain ⟨s, hs, rfl⟩ := List.mem_map.1 hr
  obtain ⟨k, hk, rfl⟩ := List.getElem_of_mem hs
  have := h.bd k hk
  rw [sp_get l k hk] at this
  simp only
  omega
def hA (l : List Scp) (k : Nat) : List Int := (l.take k).map (·.h)
def pA (l : List Scp) (k : Nat) : List Int := (l.take k).map (·.p)
theorem hA_len (l : List Scp) (k : Nat) (h : k ≤ l.length) : (hA l k).length = k := by simp [hA]; omega
theorem pA_len (l : List Scp) (k : Nat) (h : k ≤ l.length) : (pA l k).length = k := by simp [pA]; omega
theorem hA_succ (l : List Scp) (k : Nat) (h : k < l.length) : hA l (k + 1) = hA l k ++ [(sp_ l k).h] := by
  unfold hA
  rw [List.take_add_one, List.getElem?_eq_getElem h, Option.toList_some, List.map_append, sp_get l k h]
  rfl
theorem pA_succ (l : List Scp) (k : Nat) (h : k < l.length) : pA l (k + 1) = pA l k ++ [(sp_ l k).p] := by
  unfold pA
  rw [List.take_add_one, List.getElem?_eq_getElem h, Option.toList_some, List.map_append, sp_get l k h]
  rfl
theorem hA_all (l : List Scp) : hA l l.length = (prS l).map (·.1) := by unfold hA prS; rw [List.take_length, List.map_map]; rfl
theorem pA_all (l : List Scp) : pA l l.length = (prS l).map (·.2) := by unfold pA prS; rw [List.take_length, List.map_map]; rfl
/-- The rows of a plane. -/
def spR (l : List Scp) : List Rw := l.map fun s => ⟨s.x, s.y, 1, s.p⟩
theorem spR_len (l : List Scp) : (spR l).length = l.length := by simp [spR]
theorem spR_at (l : List Scp) (k : Nat) (h : k < l.length) : rw_ (spR l) k = ⟨(sp_ l k).x, (sp_ l k).y, 1, (sp_ l k).p⟩ := by
  unfold rw_ spR
  rw [List.getD_eq_getElem?_getD, List.getElem?_map, List.getElem?_eq_getElem h, sp_get l k h]
  rfl
theorem spR_rb {l : List Scp} (h : CRight l) : RB 400 200 (spR l) := fun r hr => by
  obtain ⟨s, hs, rfl⟩ := List.mem_map.1 hr
  obtain ⟨k, hk, rfl⟩ := List.getElem_of_mem hs
  have := h.bd k hk
  rw [sp_get l k hk] at this
  simp only
  omega
end Go.Sr
namespace Go.Proofs.Ytnocdnhhlppahaa
open Go Go.RowKit Go.Ab Go.Sr
set_option maxRecDepth 100000
set_option maxHeartbeats 4000000
attribute [local irreducible] OQ OW AL AW AD AF SW
def spC (s : Scp) : List Value := [.int .i64 s.x, .int .i64 s.y, .int .i64 s.h, .int .i64 s.p]
def flatP (l : List Scp) : List Value := l.flatMap spC
theorem flatP_len (l : List Scp) : (flatP l).length = l.length * 4 := flat_len spC 4 (fun _ => rfl) l
theorem flatP_scal (l : List Scp) : (flatP l).all Ab.scal = true := flat_scal spC (fun _ => rfl) l
theorem flatSp_get (l : List Scp) (k j : Nat) (hj : j < 4) (hk : k < l.length) : (flatP l)[k * 4 + j]? = (spC (sp_ l k))[j]? := flat_get spC 4 (fun _ => rfl) Scp0 l k j hj hk
theorem flatSp_ld {m : Mem} {b : Nat} {blk : Blk} {l : List Scp} (hb : m.at b = some blk) (hc : blk.cells = flatP l) (k : Nat) (hk : k < l.length) : m.ld b (k * 4) 4 = some [.int .i64 (sp_ l k).x, .int .i64 (sp_ l k).y, .int .i64 (sp_ l k).h, .int .i64 (sp_ l k).p] := flat_ld spC 4 (fun _ => rfl) Scp0 l hb hc k hk
abbrev SlP (m : Mem) (v : Value) (l : List Scp) : Prop := SlG m v (flatP l) l.length
abbrev spF : Value := .func (.func 110) #[] #[]

theorem CS1_q (s : Scp) (m : Mem) : PCalls Try.prog 110 [.agg #[.int .i64 s.x, .int .i64 s.y, .int .i64 s.h, .int .i64 s.p]] m (.bool (!spB s)) := by
  have H1 := fun n m => small_q n 200 (by decide) m
  have H2 := fun n m => small_q n 16000 (by decide) m
  unfold spB
  refine PCalls.any ?_ rfl rfl m
  refine PCalls.enter (t := [.agg #[.int .i64 s.x, .int .i64 s.y, .int .i64 s.h, .int .i64 s.p], undef, undef, undef, undef, undef, undef, undef, undef, undef, undef, undef, undef, undef, undef, undef, undef, undef, undef, undef, undef, undef, undef, undef, undef]) Try.func110 rfl (ro_nil) rfl fun E => ?_
  repeat' (first
    | with_reducible refine Then.n ?_
    | with_reducible refine Then.r ?_
    | with_reducible refine Then.x ?_
    | with_reducible refine InB.n ?_
    | with_reducible refine InB.r ?_
    | with_reducible refine InB.hit ?_
    | with_reducible refine InB.miss (by decide) ?_
    | ((with_reducible refine AL.on ?_); first
      | (refine AL.gd rfl ?_; first | (refine AL.gskip rfl rfl ?_; (conv => (arg 5; try tactic => exact nrm))) | (refine AL.gs1 rfl rfl (fun hc => ?_) (fun hc => ?_) <;> (try simp only [decide_eq_true_eq, decide_eq_false_iff_not, Bool.not_true, Bool.not_false, Bool.not_eq_true', Bool.not_eq_false', Int.not_lt, Int.not_le, Classical.not_not, ne_eq] at hc) <;> first | (exfalso; first | contradiction | (first | omega | (simp at *; done)); done) | (conv => (arg 5; try tactic => exact nrm))) | (refine AL.gs0 rfl rfl (fun hc => ?_) (fun hc => ?_) <;> (try simp only [decide_eq_true_eq, decide_eq_false_iff_not, Bool.not_true, Bool.not_false, Bool.not_eq_true', Bool.not_eq_false', Int.not_lt, Int.not_le, Classical.not_not, ne_eq] at hc) <;> first | (exfalso; first | contradiction | (first | omega | (simp at *; done)); done) | (conv => (arg 5; try tactic => exact nrm))))
      | ((first | ((with_reducible refine AL.k_fieldAddr ?_); first | refine AL.q rfl (OQ.fieldA (ty := 117) (i := 0) (n := 1) (off := 0) (g := false) rfl (by kernel_rfl) (by decide)) ?_ | refine AL.q rfl (OQ.fieldA (ty := 117) (i := 1) (n := 1) (off := 1) (g := false) rfl (by kernel_rfl) (by decide)) ?_ | refine AL.q rfl (OQ.fieldA (ty := 117) (i := 2) (n := 1) (off := 2) (g := false) rfl (by kernel_rfl) (by decide)) ?_ | refine AL.q rfl (OQ.fieldA (ty := 117) (i := 3) (n := 1) (off := 3) (g := false) rfl (by kernel_rfl) (by decide)) ?_) | ((with_reducible refine AL.k_load ?_); first | (refine AL.q rfl (OQ.load1 (ty := 3) rfl (by kernel_rfl) (by conv => lhs; whnf)) ?_)) | ((with_reducible refine AL.k_unOp ?_); first | refine AL.q rfl (OQ.not rfl) ?_) | ((with_reducible refine AL.k_move ?_); first | (refine AL.q rfl (OQ.move (by conv => lhs; whnf)) ?_)) | ((with_reducible refine AL.k_pick ?_); first | (refine AL.q rfl (OQ.pickT rfl (by with_reducible rfl) (by conv => lhs; whnf)) ?_) | (refine AL.q rfl (OQ.pickF rfl (by with_reducible rfl) (by conv => lhs; whnf)) ?_)) | ((with_reducible refine AL.k_assign ?_); first | (refine AL.q rfl (OQ.assign (by conv => lhs; whnf)) ?_))); (conv => (arg 5; try tactic => exact nrm)))
      | ((first | first | refine AL.pcall (g := 89) rfl (by kernel_rfl) rfl ((by first | exact H1 _ _ | exact H2 _ _)) ?_); (conv => (arg 5; try tactic => exact nrm)))
      | ((first | first | (refine AL.w rfl (OW.box (by conv => lhs; whnf) (by intro r h; cases h)) ?_)); (conv => (arg 5; try tactic => exact nrm)); (conv => (arg 6; try tactic => exact nrm)))
      | (refine AL.bs rfl (fun hc => ?_) (fun hc => ?_) <;> (fail_if_success (with_reducible exact lit_no hc)) <;> (try simp only [decide_eq_true_eq, decide_eq_false_iff_not, Bool.not_true, Bool.not_false, Bool.not_eq_true', Bool.not_eq_false', Int.not_lt, Int.not_le, Classical.not_not, ne_eq] at hc) <;> first | (exfalso; first | contradiction | (first | omega | (simp at *; done)); done) | (conv => (arg 5; try tactic => exact nrm)))
      | refine AL.nil ?_)
    | ((with_reducible refine AW.on ?_); first
      | refine AW.seq ?_
      | refine AW.skip ?_
      | refine AW.exit ?_
      | refine AW.ret ?_
      | refine AW.block ?_
      | refine AW.region ?_
      | (refine AW.conds rfl (fun hc => ?_) (fun hc => ?_) <;> (try simp only [decide_eq_true_eq, decide_eq_false_iff_not, Bool.not_true, Bool.not_false, Bool.not_eq_true', Bool.not_eq_false', Int.not_lt, Int.not_le, Classical.not_not, ne_eq] at hc) <;> first | (exfalso; first | contradiction | (first | omega | (simp at *; done)); done) | skip))
    | ((with_reducible refine FinP.on ?_); (first | refine FinP.ret (.tmp (by conv => lhs; whnf) .nil) ?_ rfl | refine FinP.end (.tmp (by conv => lhs; whnf) .nil) ?_ rfl); (try simp only [pack, List.drop, List.take]); all_goals ((simp_all; done))))
section
variable {l : List Scp}
theorem IndexFunc_c (z0 : Nat) (r : Int) (hr : (r = -1 ∧ ∀ k, k < l.length → spB (sp_ l k) = true) ∨ ∃ j : Nat, r = j ∧ j < l.length ∧ spB (sp_ l j) = false ∧ ∀ k, k < j → spB (sp_ l k) = true) (hl : l.length ≤ 24) :
    PCalls Try.prog 118 [.slice (some ⟨0, 0, none⟩) l.length INF, spF] [some ⟨flatP l, false, z0⟩] (.int .i64 r) := by
  have HC := CS1_q
  have hld := fun {m : Mem} {b : Nat} {blk : Blk} (hb : m.at b = some blk) (hc : blk.cells = flatP l) (k : Nat) (hk : k < l.length) => flatSp_ld hb hc k hk
  have hr1 : ∀ k, k < l.length → spB (sp_ l k) = false → r = k ∨ (r < k ∧ 0 ≤ r ∧ r ≠ -1) := fun k hk h => by
    rcases hr with ⟨h1, h2⟩ | ⟨j, h1, h2, h3, h4⟩
    · rw [h2 k hk] at h; cases h
    · by_cases hjk : j ≤ k
      · omega
      · rw [h4 k (by omega)] at h; cases h
  have hr2 : ∀ k : Nat, k < l.length → spB (sp_ l k) = true → r ≠ k := fun k hk h => by
    rcases hr with ⟨h1, h2⟩ | ⟨j, h1, h2, h3, h4⟩
    · omega
    · intro e
      obtain rfl : j = k := by omega
      rw [h3] at h; cases h
  have hr3 : r < l.length ∧ -1 ≤ r := by
    rcases hr with ⟨h1, h2⟩ | ⟨j, h1, h2, h3, h4⟩ <;> omega
  clear hr
  refine PCalls.enter (t := [.slice (some ⟨0, 0, none⟩) (l.length) INF, spF, undef, undef, undef, undef, undef, undef, undef, undef, undef, undef, undef, undef, undef, undef, undef, undef, undef]) Try.func118 rfl (ro1 _ rfl) rfl fun E => ?_
  repeat' (first
    | with_reducible refine Then.n ?_
    | with_reducible refine Then.r ?_
    | with_reducible refine Then.x ?_
    | with_reducible refine InB.n ?_
    | with_reducible refine InB.r ?_
    | with_reducible refine InB.hit ?_
    | with_reducible refine InB.miss (by decide) ?_
    | ((with_reducible refine AL.on ?_); first
      | ((first | ((with_reducible refine AL.k_move ?_); first | (refine AL.q rfl (OQ.move (by conv => lhs; whnf)) ?_)) | ((with_reducible refine AL.k_assign ?_); first | (refine AL.q rfl (OQ.assign (by conv => lhs; whnf)) ?_)) | ((with_reducible refine AL.k_call ?_); first | refine AL.q rfl (OQ.lenS (xt := 108) (r := (none, 4, true)) rfl (by kernel_rfl)) ?_) | ((with_reducible refine AL.k_binOp ?_); first | refine AL.q rfl (OQ.lss rfl rfl) ?_ | refine AL.q rfl (OQ.addi rfl rfl (by omega)) ?_ | refine AL.q rfl (OQ.add rfl rfl) ?_) | ((with_reducible refine AL.k_load ?_); first | refine AL.q rfl (OQ.loadN (ty := 117) (n := 4) rfl (by kernel_rfl) (by kernel_rfl) (by first | (exact hld rfl rfl _ (by omega)) | rfl)) ?_)); (conv => (arg 5; try tactic => exact nrm)))
      | ((first | ((with_reducible refine AL.k_call ?_); first | refine AL.pcall rfl (by first | assumption | kernel_rfl) rfl (HC _ _) ?_) | ((with_reducible refine AL.k_indexAddr ?_); first | refine AL.q rfl (OQ.idxAddr (ty := 108) (z := 4) (g := true) rfl rfl (by kernel_rfl) (by omega) (by omega)) ?_)); (conv => (arg 5; try tactic => exact nrm)))
      | refine AL.nil ?_)
    | ((with_reducible refine AW.on ?_); first
      | refine AW.seq ?_
      | refine AW.skip ?_
      | refine AW.exit ?_
      | refine AW.ret ?_
      | ((refine AW.block (id := 0) ?_); (refine AW.wk (Wk.forget [true, true, false, false, false, false, false, true, true, false, false, false, false, false, false, false, false, false, false] rfl) ?_); (conv => (arg 4; simp only [fgt, if_true, if_false, Bool.false_eq_true])); (refine AW.loop (fun n t' m => ∃ k : Nat, n = l.length - k ∧ k ≤ l.length ∧ (∀ i : Nat, i < k → r ≠ i) ∧ t' = [.slice (some ⟨0, 0, none⟩) (l.length) INF, spF, junk, junk, junk, junk, junk, .int .i64 (l.length), .int .i64 (k), junk, junk, junk, junk, junk, junk, junk, junk, junk, junk] ∧ m = [some ⟨flatP l, false, z0⟩]) (l.length) (by exact ⟨0, rfl, Nat.zero_le _, (by intro i h; omega), rfl, rfl⟩) ?_); (rintro n t' m ⟨k, rfl, hk, hki, rfl, rfl⟩))
      | refine AW.block ?_
      | refine AW.region ?_
      | (refine AW.conds rfl (fun hc => ?_) (fun hc => ?_) <;> (try simp only [decide_eq_true_eq, decide_eq_false_iff_not, Bool.not_true, Bool.not_false, Bool.not_eq_true', Bool.not_eq_false', Int.not_lt, Int.not_le, Classical.not_not, ne_eq] at hc) <;> first | (exfalso; first | contradiction | (omega); done) | skip))
    | ((with_reducible refine ex_on ?_); (have h2 := hr2 k (by omega) (by assumption); refine ⟨_, _, _, ?_, ?_, k + 1, rfl, (by omega), (by intro i hi; by_cases h : i = k; subst h; exact h2; exact hki i (by omega)), rfl, rfl⟩; omega; exact Wk.forget [true, true, false, false, false, false, false, true, true, false, false, false, false, false, false, false, false, false, false] rfl))
    | ((with_reducible refine FinP.on ?_); (first | refine FinP.ret (.tmp (by conv => lhs; whnf) .nil) ?_ rfl | refine FinP.end (.tmp (by conv => lhs; whnf) .nil) ?_ rfl); (try simp only [pack, List.drop, List.take]); all_goals ((congr 1; first | (have h1 := hr1 k (by omega) (by assumption); have h3 := hki r.toNat; omega) | (have h3 := hki r.toNat; omega)))))
theorem first_bad (l : List Scp) : (∀ k, k < l.length → spB (sp_ l k) = true) ∨ ∃ j : Nat, j < l.length ∧ spB (sp_ l j) = false ∧ ∀ k, k < j → spB (sp_ l k) = true := by
  by_cases h : ∀ k, k < l.length → spB (sp_ l k) = true
  · exact .inl h
  · have h' : ∃ j, j < l.length ∧ spB (sp_ l j) = false := by
      apply Classical.byContradiction
      intro hn
      exact h fun k hk => by
        cases hb : spB (sp_ l k) with
        | true => rfl
        | false => exact absurd ⟨k, hk, hb⟩ hn
    obtain ⟨j0, hj0⟩ := h'
    have key : ∀ n j, j ≤ n → (j < l.length ∧ spB (sp_ l j) = false) → ∃ j : Nat, j < l.length ∧ spB (sp_ l j) = false ∧ ∀ k, k < j → spB (sp_ l k) = true := by
      intro n
      induction n with
      | zero => intro j hj hb; exact ⟨j, hb.1, hb.2, fun k hk => by omega⟩
      | succ n ih =>
        intro j hj hb
        by_cases hs : ∃ k, k < j ∧ spB (sp_ l k) = false
        · obtain ⟨k, hk, hkb⟩ := hs
          exact ih k (by omega) ⟨by omega, hkb⟩
        · refine ⟨j, hb.1, hb.2, fun k hk => ?_⟩
          cases hb' : spB (sp_ l k) with
          | true => rfl
          | false => exact absurd ⟨k, hk, hb'⟩ hs
    exact .inr (key j0 j0 (Nat.le_refl _) hj0)
theorem ContainsFunc_c (hl : l.length ≤ 24) (z0 : Nat) :
    PCalls Try.prog 109 [.slice (some ⟨0, 0, none⟩) l.length INF, spF] [some ⟨flatP l, false, z0⟩] (.bool (!l.all spB)) := by
  rcases first_bad l with h | ⟨j, h1, h2, h3⟩
  · have HI := fun (m : Mem) (b : Nat) (blk : Blk) (hb : m.at b = some blk) (hc : blk.cells = flatP l) => PCalls.via1 (args0 := [.slice (some ⟨0, 0, none⟩) l.length INF, spF]) (args := [.slice (some ⟨b, 0, none⟩) l.length INF, spF]) (fun z => IndexFunc_c z (-1) (.inl ⟨rfl, h⟩) hl) hb hc (flatP_scal l) rfl rfl rfl rfl
    rw [(all_sp l).2 h]
    refine PCalls.enter (t := [.slice (some ⟨0, 0, none⟩) (l.length) INF, spF, undef, undef, undef, undef, undef, undef, undef]) Try.func109 rfl (ro1 _ rfl) rfl fun E => ?_
    repeat' (first
      | with_reducible refine Then.n ?_
      | with_reducible refine Then.r ?_
      | with_reducible refine Then.x ?_
      | with_reducible refine InB.n ?_
      | with_reducible refine InB.r ?_
      | with_reducible refine InB.hit ?_
      | with_reducible refine InB.miss (by decide) ?_
      | ((with_reducible refine AL.on ?_); first
        | ((first | ((with_reducible refine AL.k_assign ?_); first | (refine AL.q rfl (OQ.assign (by conv => lhs; whnf)) ?_)) | ((with_reducible refine AL.k_move ?_); first | (refine AL.q rfl (OQ.move (by conv => lhs; whnf)) ?_)) | ((with_reducible refine AL.k_binOp ?_); first | refine AL.q rfl (OQ.geq rfl rfl) ?_)); (conv => (arg 5; try tactic => exact nrm)))
        | ((first | first | refine AL.pcall (g := 118) rfl (by kernel_rfl) rfl (HI _ _ _ rfl rfl) ?_); (conv => (arg 5; try tactic => exact nrm)))
        | refine AL.nil ?_)
      | ((with_reducible refine AW.on ?_); first
        | refine AW.seq ?_
        | refine AW.skip ?_
        | refine AW.exit ?_
        | refine AW.ret ?_
        | refine AW.block ?_
        | refine AW.region ?_
        | (refine AW.conds rfl (fun hc => ?_) (fun hc => ?_) <;> (try simp only [decide_eq_true_eq, decide_eq_false_iff_not, Bool.not_true, Bool.not_false, Bool.not_eq_true', Bool.not_eq_false', Int.not_lt, Int.not_le, Classical.not_not, ne_eq] at hc) <;> first | (exfalso; first | contradiction | (omega); done) | skip))
      | ((with_reducible refine FinP.on ?_); (first | refine FinP.ret (.tmp (by conv => lhs; whnf) .nil) ?_ rfl | refine FinP.end (.tmp (by conv => lhs; whnf) .nil) ?_ rfl); (try simp only [pack, List.drop, List.take]); all_goals (rfl)))
  · have HI := fun (m : Mem) (b : Nat) (blk : Blk) (hb : m.at b = some blk) (hc : blk.cells = flatP l) => PCalls.via1 (args0 := [.slice (some ⟨0, 0, none⟩) l.length INF, spF]) (args := [.slice (some ⟨b, 0, none⟩) l.length INF, spF]) (fun z => IndexFunc_c z j (.inr ⟨j, rfl, h1, h2, h3⟩) hl) hb hc (flatP_scal l) rfl rfl rfl rfl
    have ha : l.all spB = false := by
      cases hb : l.all spB with
      | false => rfl
      | true => rw [(all_sp l).1 hb j h1] at h2; cases h2
    rw [ha]
    refine PCalls.enter (t := [.slice (some ⟨0, 0, none⟩) (l.length) INF, spF, undef, undef, undef, undef, undef, undef, undef]) Try.func109 rfl (ro1 _ rfl) rfl fun E => ?_
    repeat' (first
      | with_reducible refine Then.n ?_
      | with_reducible refine Then.r ?_
      | with_reducible refine Then.x ?_
      | with_reducible refine InB.n ?_
      | with_reducible refine InB.r ?_
      | with_reducible refine InB.hit ?_
      | with_reducible refine InB.miss (by decide) ?_
      | ((with_reducible refine AL.on ?_); first
        | ((first | ((with_reducible refine AL.k_assign ?_); first | (refine AL.q rfl (OQ.assign (by conv => lhs; whnf)) ?_)) | ((with_reducible refine AL.k_move ?_); first | (refine AL.q rfl (OQ.move (by conv => lhs; whnf)) ?_)) | ((with_reducible refine AL.k_binOp ?_); first | refine AL.q rfl (OQ.geq rfl rfl) ?_)); (conv => (arg 5; try tactic => exact nrm)))
        | ((first | first | refine AL.pcall (g := 118) rfl (by kernel_rfl) rfl (HI _ _ _ rfl rfl) ?_); (conv => (arg 5; try tactic => exact nrm)))
        | refine AL.nil ?_)
      | ((with_reducible refine AW.on ?_); first
        | refine AW.seq ?_
        | refine AW.skip ?_
        | refine AW.exit ?_
        | refine AW.ret ?_
        | refine AW.block ?_
        | refine AW.region ?_
        | (refine AW.conds rfl (fun hc => ?_) (fun hc => ?_) <;> (try simp only [decide_eq_true_eq, decide_eq_false_iff_not, Bool.not_true, Bool.not_false, Bool.not_eq_true', Bool.not_eq_false', Int.not_lt, Int.not_le, Classical.not_not, ne_eq] at hc) <;> first | (exfalso; first | contradiction | (omega); done) | skip))
      | ((with_reducible refine FinP.on ?_); (first | refine FinP.ret (.tmp (by conv => lhs; whnf) .nil) ?_ rfl | refine FinP.end (.tmp (by conv => lhs; whnf) .nil) ?_ rfl); (try simp only [pack, List.drop, List.take]); all_goals ((first | rfl | (congr 1; (first | exact decide_eq_true (by omega) | exact (decide_eq_true (by omega)).symm))))))
theorem CheckScreen_q {m : Mem} {v : Value} (l : List Scp) (hS : SlP m v l) (hl : l.length ≤ 1000) : PCalls Try.prog 61 [v] m (.int .i64 (csE l)) := by
  refine SlG.up (us := []) hS (flatP_scal l) rfl rfl fun v m0 h => ?_
  have hro := h.ro
  have HK := fun (h24 : l.length ≤ 24) (m : Mem) (b : Nat) (blk : Blk) (hb : m.at b = some blk) (hc : blk.cells = flatP l) => PCalls.via1 (args0 := [.slice (some ⟨0, 0, none⟩) l.length INF, spF]) (args := [.slice (some ⟨b, 0, none⟩) l.length INF, spF]) (fun z => ContainsFunc_c h24 z) hb hc (flatP_scal l) rfl rfl rfl rfl
  have e0 : l.length = 0 → csE l = 10 := fun h => by unfold csE; rw [if_pos h]
  have e1 : 24 < l.length → csE l = 8 := fun h => by unfold csE; rw [if_neg (by omega), if_pos h]
  have e2 : l.length ≠ 0 → ¬ 24 < l.length → l.all spB = false → csE l = 2 := fun h h' h'' => by unfold csE; rw [if_neg h, if_neg h', if_neg (by simp [h''])]
  have e3 : l.length ≠ 0 → ¬ 24 < l.length → l.all spB = true → csE l = 0 := fun h h' h'' => by unfold csE; rw [if_neg h, if_neg h', if_pos h'']
  generalize l.all spB = bb at *
  generalize csE l = cc at *
  rcases h with ⟨rfl, rfl, h3⟩ | ⟨rfl, rfl, h3⟩ | ⟨z, rfl, rfl⟩
  · rw [e0 h3]
    refine PCalls.enter (t := [.slice none 0 0, undef, undef, undef, undef, undef, undef, undef, undef, undef, undef, undef, undef, undef]) Try.func61 rfl (hro) rfl fun E => ?_
    repeat' (first
      | with_reducible refine Then.n ?_
      | with_reducible refine Then.r ?_
      | with_reducible refine Then.x ?_
      | with_reducible refine InB.n ?_
      | with_reducible refine InB.r ?_
      | with_reducible refine InB.hit ?_
      | with_reducible refine InB.miss (by decide) ?_
      | ((with_reducible refine AL.on ?_); first
        | ((first | ((with_reducible refine AL.k_assign ?_); first | (refine AL.q rfl (OQ.assign (by conv => lhs; whnf)) ?_)) | ((with_reducible refine AL.k_move ?_); first | (refine AL.q rfl (OQ.move (by conv => lhs; whnf)) ?_)) | ((with_reducible refine AL.k_call ?_); first | refine AL.q rfl (OQ.lenS (xt := 108) (r := (none, 4, true)) rfl (by kernel_rfl)) ?_) | ((with_reducible refine AL.k_binOp ?_); first | refine AL.q rfl (OQ.eql rfl rfl) ?_ | refine AL.q rfl (OQ.gtr rfl rfl) ?_)); (conv => (arg 5; try tactic => exact nrm)))
        | refine AL.nil ?_)
      | ((with_reducible refine AW.on ?_); first
        | refine AW.seq ?_
        | refine AW.skip ?_
        | refine AW.exit ?_
        | refine AW.ret ?_
        | refine AW.block ?_
        | (refine AW.region (id := 3) ?_; exfalso; omega; done)
        | refine AW.region ?_
        | (refine AW.conds rfl (fun hc => ?_) (fun hc => ?_) <;> (try simp only [decide_eq_true_eq, decide_eq_false_iff_not, Bool.not_true, Bool.not_false, Bool.not_eq_true', Bool.not_eq_false', Int.not_lt, Int.not_le, Classical.not_not, ne_eq] at hc) <;> first | (exfalso; first | contradiction | (omega); done) | skip))
      | ((with_reducible refine FinP.on ?_); (first | refine FinP.ret (.tmp (by conv => lhs; whnf) .nil) ?_ rfl | refine FinP.end (.tmp (by conv => lhs; whnf) .nil) ?_ rfl); (try simp only [pack, List.drop, List.take]); all_goals (rfl)))
  · rw [e0 h3]
    refine PCalls.enter (t := [lostV, undef, undef, undef, undef, undef, undef, undef, undef, undef, undef, undef, undef, undef]) Try.func61 rfl (hro) rfl fun E => ?_
    repeat' (first
      | with_reducible refine Then.n ?_
      | with_reducible refine Then.r ?_
      | with_reducible refine Then.x ?_
      | with_reducible refine InB.n ?_
      | with_reducible refine InB.r ?_
      | with_reducible refine InB.hit ?_
      | with_reducible refine InB.miss (by decide) ?_
      | ((with_reducible refine AL.on ?_); first
        | ((first | ((with_reducible refine AL.k_assign ?_); first | (refine AL.q rfl (OQ.assign (by conv => lhs; whnf)) ?_)) | ((with_reducible refine AL.k_move ?_); first | (refine AL.q rfl (OQ.move (by conv => lhs; whnf)) ?_)) | ((with_reducible refine AL.k_call ?_); first | refine AL.q rfl (OQ.lenS (xt := 108) (r := (none, 4, true)) rfl (by kernel_rfl)) ?_) | ((with_reducible refine AL.k_binOp ?_); first | refine AL.q rfl (OQ.eql rfl rfl) ?_ | refine AL.q rfl (OQ.gtr rfl rfl) ?_)); (conv => (arg 5; try tactic => exact nrm)))
        | refine AL.nil ?_)
      | ((with_reducible refine AW.on ?_); first
        | refine AW.seq ?_
        | refine AW.skip ?_
        | refine AW.exit ?_
        | refine AW.ret ?_
        | refine AW.block ?_
        | (refine AW.region (id := 3) ?_; exfalso; omega; done)
        | refine AW.region ?_
        | (refine AW.conds rfl (fun hc => ?_) (fun hc => ?_) <;> (try simp only [decide_eq_true_eq, decide_eq_false_iff_not, Bool.not_true, Bool.not_false, Bool.not_eq_true', Bool.not_eq_false', Int.not_lt, Int.not_le, Classical.not_not, ne_eq] at hc) <;> first | (exfalso; first | contradiction | (omega); done) | skip))
      | ((with_reducible refine FinP.on ?_); (first | refine FinP.ret (.tmp (by conv => lhs; whnf) .nil) ?_ rfl | refine FinP.end (.tmp (by conv => lhs; whnf) .nil) ?_ rfl); (try simp only [pack, List.drop, List.take]); all_goals (rfl)))
  ·
    refine PCalls.enter (t := [.slice (some ⟨0, 0, none⟩) (l.length) INF, undef, undef, undef, undef, undef, undef, undef, undef, undef, undef, undef, undef, undef]) Try.func61 rfl (hro) rfl fun E => ?_
    repeat' (first
      | with_reducible refine Then.n ?_
      | with_reducible refine Then.r ?_
      | with_reducible refine Then.x ?_
      | with_reducible refine InB.n ?_
      | with_reducible refine InB.r ?_
      | with_reducible refine InB.hit ?_
      | with_reducible refine InB.miss (by decide) ?_
      | ((with_reducible refine AL.on ?_); first
        | ((first | ((with_reducible refine AL.k_assign ?_); first | (refine AL.q rfl (OQ.assign (by conv => lhs; whnf)) ?_)) | ((with_reducible refine AL.k_move ?_); first | (refine AL.q rfl (OQ.move (by conv => lhs; whnf)) ?_)) | ((with_reducible refine AL.k_call ?_); first | refine AL.q rfl (OQ.lenS (xt := 108) (r := (none, 4, true)) rfl (by kernel_rfl)) ?_) | ((with_reducible refine AL.k_binOp ?_); first | refine AL.q rfl (OQ.eql rfl rfl) ?_ | refine AL.q rfl (OQ.gtr rfl rfl) ?_)); (conv => (arg 5; try tactic => exact nrm)))
        | ((first | first | refine AL.pcall (g := 109) rfl (by kernel_rfl) rfl (HK (by omega) _ _ _ rfl rfl) ?_); (conv => (arg 5; try tactic => exact nrm)))
        | refine AL.nil ?_)
      | ((with_reducible refine AW.on ?_); first
        | refine AW.seq ?_
        | refine AW.skip ?_
        | refine AW.exit ?_
        | refine AW.ret ?_
        | refine AW.block ?_
        | refine AW.region ?_
        | (refine AW.conds rfl (fun hc => ?_) (fun hc => ?_) <;> (try simp only [decide_eq_true_eq, decide_eq_false_iff_not, Bool.not_true, Bool.not_false, Bool.not_eq_true', Bool.not_eq_false', Int.not_lt, Int.not_le, Classical.not_not, ne_eq] at hc) <;> first | (exfalso; first | contradiction | (first | omega | (simp at *; done)); done) | skip))
      | ((with_reducible refine FinP.on ?_); (first | refine FinP.ret (.tmp (by conv => lhs; whnf) .nil) ?_ rfl | refine FinP.end (.tmp (by conv => lhs; whnf) .nil) ?_ rfl); (try simp only [pack, List.drop, List.take]); all_goals ((congr 1; first | (rw [e0 (by omega)]; done) | (rw [e1 (by omega)]; done) | (rw [e2 (by omega) (by omega) (by assumption)]; done) | (rw [e3 (by omega) (by omega) (by assumption)]; done)))))
theorem isAway_q (n : Int) (m : Mem) : PCalls Try.prog 105 [.int .i64 n] m (.bool (rngB n (-200) 200)) := by
  have H := fun m => rWithin_q n (-200) 200 m
  refine PCalls.any ?_ rfl rfl m
  refine PCalls.enter (t := [.int .i64 n, undef, undef, undef, undef]) Try.func105 rfl (ro_nil) rfl fun E => ?_
  repeat' (first
    | with_reducible refine Then.n ?_
    | with_reducible refine Then.r ?_
    | with_reducible refine Then.x ?_
    | with_reducible refine InB.n ?_
    | with_reducible refine InB.r ?_
    | with_reducible refine InB.hit ?_
    | with_reducible refine InB.miss (by decide) ?_
    | ((with_reducible refine AL.on ?_); first
      | ((first | ((with_reducible refine AL.k_assign ?_); first | (refine AL.q rfl (OQ.assign (by conv => lhs; whnf)) ?_)) | ((with_reducible refine AL.k_move ?_); first | (refine AL.q rfl (OQ.move (by conv => lhs; whnf)) ?_))); (conv => (arg 5; try tactic => exact nrm)))
      | ((first | first | refine AL.pcall (g := 24) rfl (by kernel_rfl) rfl (H _) ?_); (conv => (arg 5; try tactic => exact nrm)))
      | refine AL.nil ?_)
    | ((with_reducible refine AW.on ?_); first
      | refine AW.seq ?_
      | refine AW.skip ?_
      | refine AW.exit ?_
      | refine AW.ret ?_
      | refine AW.block ?_
      | refine AW.region ?_
      | (refine AW.conds rfl (fun hc => ?_) (fun hc => ?_) <;> (try simp only [decide_eq_true_eq, decide_eq_false_iff_not, Bool.not_true, Bool.not_false, Bool.not_eq_true', Bool.not_eq_false', Int.not_lt, Int.not_le, Classical.not_not, ne_eq] at hc) <;> first | (exfalso; contradiction; done) | skip))
    | ((with_reducible refine FinP.on ?_); (first | refine FinP.ret (.tmp (by conv => lhs; whnf) .nil) ?_ rfl | refine FinP.end (.tmp (by conv => lhs; whnf) .nil) ?_ rfl); (try simp only [pack, List.drop, List.take]); all_goals (rfl)))
theorem rCheckScreen_q {m : Mem} {v : Value} (l : List Scp) (hS : SlP m v l) (hl : l.length ≤ 1000) : PCalls Try.prog 56 [v] m (.int .i64 (csE l)) := by
  refine SlG.up (us := []) hS (flatP_scal l) rfl rfl fun v m0 h => ?_
  have hro := h.ro
  have HW := fun n m => isAway_q n m
  have HM := fun n m => isMoved_q n m
  have e0 : l.length = 0 → csE l = 10 := fun h => by unfold csE; rw [if_pos h]
  have e1 : 24 < l.length → csE l = 8 := fun h => by unfold csE; rw [if_neg (by omega), if_pos h]
  have e2 : l.length ≠ 0 → ¬ 24 < l.length → ∀ k, k < l.length → spB (sp_ l k) = false → csE l = 2 := fun h h' k hk h'' => by
    unfold csE
    rw [if_neg h, if_neg h', if_neg (fun ha => by rw [(all_sp l).1 ha k hk] at h''; cases h'')]
  have e3 : l.length ≠ 0 → ¬ 24 < l.length → (∀ k, k < l.length → spB (sp_ l k) = true) → csE l = 0 := fun h h' h'' => by unfold csE; rw [if_neg h, if_neg h', if_pos ((all_sp l).2 h'')]
  have g0 : ∀ k : Nat, k < l.length → (flatP l)[k * 4]? = some (.int .i64 (sp_ l k).x) := fun k hk => flatSp_get l k 0 (by decide) hk
  have g1 : ∀ k : Nat, k < l.length → (flatP l)[k * 4 + 1]? = some (.int .i64 (sp_ l k).y) := fun k hk => flatSp_get l k 1 (by decide) hk
  have g2 : ∀ k : Nat, k < l.length → (flatP l)[k * 4 + 2]? = some (.int .i64 (sp_ l k).h) := fun k hk => flatSp_get l k 2 (by decide) hk
  have g3 : ∀ k : Nat, k < l.length → (flatP l)[k * 4 + 3]? = some (.int .i64 (sp_ l k).p) := fun k hk => flatSp_get l k 3 (by decide) hk
  generalize csE l = cc at *
  rcases h with ⟨rfl, rfl, h3⟩ | ⟨rfl, rfl, h3⟩ | ⟨z, rfl, rfl⟩
  · rw [e0 h3]
    refine PCalls.enter (t := [.slice none 0 0, undef, undef, undef, undef, undef, undef, undef, undef, undef, undef, undef, undef, undef, undef, undef, undef, undef, undef, undef, undef, undef, undef, undef, undef, undef, undef, undef, undef, undef, undef, undef, undef, undef, undef, undef, undef, undef, undef, undef, undef, undef, undef, undef, undef, undef, undef, undef, undef, undef]) Try.func56 rfl (hro) rfl fun E => ?_
    repeat' (first
      | with_reducible refine Then.n ?_
      | with_reducible refine Then.r ?_
      | with_reducible refine Then.x ?_
      | with_reducible refine InB.n ?_
      | with_reducible refine InB.r ?_
      | with_reducible refine InB.hit ?_
      | with_reducible refine InB.miss (by decide) ?_
      | ((with_reducible refine AL.on ?_); first
        | (refine AL.gd rfl ?_; first | (refine AL.gskip rfl rfl ?_; (conv => (arg 5; try tactic => exact nrm))) | (refine AL.gs1 rfl rfl (fun hc => ?_) (fun hc => ?_) <;> (try simp only [decide_eq_true_eq, decide_eq_false_iff_not, Bool.not_true, Bool.not_false, Bool.not_eq_true', Bool.not_eq_false', Int.not_lt, Int.not_le, Classical.not_not, ne_eq] at hc) <;> first | (exfalso; first | contradiction | (omega); done) | (conv => (arg 5; try tactic => exact nrm))) | (refine AL.gs0 rfl rfl (fun hc => ?_) (fun hc => ?_) <;> (try simp only [decide_eq_true_eq, decide_eq_false_iff_not, Bool.not_true, Bool.not_false, Bool.not_eq_true', Bool.not_eq_false', Int.not_lt, Int.not_le, Classical.not_not, ne_eq] at hc) <;> first | (exfalso; first | contradiction | (omega); done) | (conv => (arg 5; try tactic => exact nrm))))
        | ((first | ((with_reducible refine AL.k_move ?_); first | (refine AL.q rfl (OQ.move (by conv => lhs; whnf)) ?_)) | ((with_reducible refine AL.k_assign ?_); first | (refine AL.q rfl (OQ.assign (by conv => lhs; whnf)) ?_)) | ((with_reducible refine AL.k_call ?_); first | refine AL.q rfl (OQ.lenS (xt := 108) (r := (none, 4, true)) rfl (by kernel_rfl)) ?_) | ((with_reducible refine AL.k_binOp ?_); first | refine AL.q rfl (OQ.eql rfl rfl) ?_ | refine AL.q rfl (OQ.gtr rfl rfl) ?_ | refine AL.q rfl (OQ.lss rfl rfl) ?_ | refine AL.q rfl (OQ.addi rfl rfl (by omega)) ?_ | refine AL.q rfl (OQ.add rfl rfl) ?_) | ((with_reducible refine AL.k_indexAddr ?_); first | refine AL.q rfl (OQ.idxAddr (ty := 108) (z := 4) (g := true) rfl rfl (by kernel_rfl) (by omega) (by omega)) ?_) | ((with_reducible refine AL.k_fieldAddr ?_); first | refine AL.q rfl (OQ.fieldA (ty := 117) (i := 0) (n := 1) (off := 0) (g := false) rfl (by kernel_rfl) (by decide)) ?_ | refine AL.q rfl (OQ.fieldA (ty := 117) (i := 1) (n := 1) (off := 1) (g := false) rfl (by kernel_rfl) (by decide)) ?_ | refine AL.q rfl (OQ.fieldA (ty := 117) (i := 2) (n := 1) (off := 2) (g := false) rfl (by kernel_rfl) (by decide)) ?_ | refine AL.q rfl (OQ.fieldA (ty := 117) (i := 3) (n := 1) (off := 3) (g := false) rfl (by kernel_rfl) (by decide)) ?_) | ((with_reducible refine AL.k_load ?_); first | (refine AL.q rfl (OQ.load1 (ty := 3) rfl (by kernel_rfl) (by conv => lhs; whnf)) ?_)) | ((with_reducible refine AL.k_unOp ?_); first | refine AL.q rfl (OQ.not rfl) ?_) | ((with_reducible refine AL.k_pick ?_); first | (refine AL.q rfl (OQ.pickT rfl (by with_reducible rfl) (by conv => lhs; whnf)) ?_) | (refine AL.q rfl (OQ.pickF rfl (by with_reducible rfl) (by conv => lhs; whnf)) ?_))); (conv => (arg 5; try tactic => exact nrm)))
        | (refine AL.bs rfl (fun hc => ?_) (fun hc => ?_) <;> (fail_if_success (with_reducible exact lit_no hc)) <;> (try simp only [decide_eq_true_eq, decide_eq_false_iff_not, Bool.not_true, Bool.not_false, Bool.not_eq_true', Bool.not_eq_false', Int.not_lt, Int.not_le, Classical.not_not, ne_eq] at hc) <;> first | (exfalso; first | contradiction | (omega); done) | (conv => (arg 5; try tactic => exact nrm)))
        | refine AL.nil ?_)
      | ((with_reducible refine AW.on ?_); first
        | refine AW.seq ?_
        | refine AW.skip ?_
        | refine AW.exit ?_
        | refine AW.ret ?_
        | refine AW.block ?_
        | (refine AW.region (id := 3) ?_; exfalso; omega; done)
        | refine AW.region ?_
        | (refine AW.conds rfl (fun hc => ?_) (fun hc => ?_) <;> (try simp only [decide_eq_true_eq, decide_eq_false_iff_not, Bool.not_true, Bool.not_false, Bool.not_eq_true', Bool.not_eq_false', Int.not_lt, Int.not_le, Classical.not_not, ne_eq] at hc) <;> first | (exfalso; first | contradiction | (omega); done) | skip))
      | ((with_reducible refine FinP.on ?_); (first | refine FinP.ret (.tmp (by conv => lhs; whnf) .nil) ?_ rfl | refine FinP.end (.tmp (by conv => lhs; whnf) .nil) ?_ rfl); (try simp only [pack, List.drop, List.take]); all_goals (rfl)))
  · rw [e0 h3]
    refine PCalls.enter (t := [lostV, undef, undef, undef, undef, undef, undef, undef, undef, undef, undef, undef, undef, undef, undef, undef, undef, undef, undef, undef, undef, undef, undef, undef, undef, undef, undef, undef, undef, undef, undef, undef, undef, undef, undef, undef, undef, undef, undef, undef, undef, undef, undef, undef, undef, undef, undef, undef, undef, undef]) Try.func56 rfl (hro) rfl fun E => ?_
    repeat' (first
      | with_reducible refine Then.n ?_
      | with_reducible refine Then.r ?_
      | with_reducible refine Then.x ?_
      | with_reducible refine InB.n ?_
      | with_reducible refine InB.r ?_
      | with_reducible refine InB.hit ?_
      | with_reducible refine InB.miss (by decide) ?_
      | ((with_reducible refine AL.on ?_); first
        | (refine AL.gd rfl ?_; first | (refine AL.gskip rfl rfl ?_; (conv => (arg 5; try tactic => exact nrm))) | (refine AL.gs1 rfl rfl (fun hc => ?_) (fun hc => ?_) <;> (try simp only [decide_eq_true_eq, decide_eq_false_iff_not, Bool.not_true, Bool.not_false, Bool.not_eq_true', Bool.not_eq_false', Int.not_lt, Int.not_le, Classical.not_not, ne_eq] at hc) <;> first | (exfalso; first | contradiction | (omega); done) | (conv => (arg 5; try tactic => exact nrm))) | (refine AL.gs0 rfl rfl (fun hc => ?_) (fun hc => ?_) <;> (try simp only [decide_eq_true_eq, decide_eq_false_iff_not, Bool.not_true, Bool.not_false, Bool.not_eq_true', Bool.not_eq_false', Int.not_lt, Int.not_le, Classical.not_not, ne_eq] at hc) <;> first | (exfalso; first | contradiction | (omega); done) | (conv => (arg 5; try tactic => exact nrm))))
        | ((first | ((with_reducible refine AL.k_move ?_); first | (refine AL.q rfl (OQ.move (by conv => lhs; whnf)) ?_)) | ((with_reducible refine AL.k_assign ?_); first | (refine AL.q rfl (OQ.assign (by conv => lhs; whnf)) ?_)) | ((with_reducible refine AL.k_call ?_); first | refine AL.q rfl (OQ.lenS (xt := 108) (r := (none, 4, true)) rfl (by kernel_rfl)) ?_) | ((with_reducible refine AL.k_binOp ?_); first | refine AL.q rfl (OQ.eql rfl rfl) ?_ | refine AL.q rfl (OQ.gtr rfl rfl) ?_ | refine AL.q rfl (OQ.lss rfl rfl) ?_ | refine AL.q rfl (OQ.addi rfl rfl (by omega)) ?_ | refine AL.q rfl (OQ.add rfl rfl) ?_) | ((with_reducible refine AL.k_indexAddr ?_); first | refine AL.q rfl (OQ.idxAddr (ty := 108) (z := 4) (g := true) rfl rfl (by kernel_rfl) (by omega) (by omega)) ?_) | ((with_reducible refine AL.k_fieldAddr ?_); first | refine AL.q rfl (OQ.fieldA (ty := 117) (i := 0) (n := 1) (off := 0) (g := false) rfl (by kernel_rfl) (by decide)) ?_ | refine AL.q rfl (OQ.fieldA (ty := 117) (i := 1) (n := 1) (off := 1) (g := false) rfl (by kernel_rfl) (by decide)) ?_ | refine AL.q rfl (OQ.fieldA (ty := 117) (i := 2) (n := 1) (off := 2) (g := false) rfl (by kernel_rfl) (by decide)) ?_ | refine AL.q rfl (OQ.fieldA (ty := 117) (i := 3) (n := 1) (off := 3) (g := false) rfl (by kernel_rfl) (by decide)) ?_) | ((with_reducible refine AL.k_load ?_); first | (refine AL.q rfl (OQ.load1 (ty := 3) rfl (by kernel_rfl) (by conv => lhs; whnf)) ?_)) | ((with_reducible refine AL.k_unOp ?_); first | refine AL.q rfl (OQ.not rfl) ?_) | ((with_reducible refine AL.k_pick ?_); first | (refine AL.q rfl (OQ.pickT rfl (by with_reducible rfl) (by conv => lhs; whnf)) ?_) | (refine AL.q rfl (OQ.pickF rfl (by with_reducible rfl) (by conv => lhs; whnf)) ?_))); (conv => (arg 5; try tactic => exact nrm)))
        | (refine AL.bs rfl (fun hc => ?_) (fun hc => ?_) <;> (fail_if_success (with_reducible exact lit_no hc)) <;> (try simp only [decide_eq_true_eq, decide_eq_false_iff_not, Bool.not_true, Bool.not_false, Bool.not_eq_true', Bool.not_eq_false', Int.not_lt, Int.not_le, Classical.not_not, ne_eq] at hc) <;> first | (exfalso; first | contradiction | (omega); done) | (conv => (arg 5; try tactic => exact nrm)))
        | refine AL.nil ?_)
      | ((with_reducible refine AW.on ?_); first
        | refine AW.seq ?_
        | refine AW.skip ?_
        | refine AW.exit ?_
        | refine AW.ret ?_
        | refine AW.block ?_
        | (refine AW.region (id := 3) ?_; exfalso; omega; done)
        | refine AW.region ?_
        | (refine AW.conds rfl (fun hc => ?_) (fun hc => ?_) <;> (try simp only [decide_eq_true_eq, decide_eq_false_iff_not, Bool.not_true, Bool.not_false, Bool.not_eq_true', Bool.not_eq_false', Int.not_lt, Int.not_le, Classical.not_not, ne_eq] at hc) <;> first | (exfalso; first | contradiction | (omega); done) | skip))
      | ((with_reducible refine FinP.on ?_); (first | refine FinP.ret (.tmp (by conv => lhs; whnf) .nil) ?_ rfl | refine FinP.end (.tmp (by conv => lhs; whnf) .nil) ?_ rfl); (try simp only [pack, List.drop, List.take]); all_goals (rfl)))
  ·
    refine PCalls.enter (t := [.slice (some ⟨0, 0, none⟩) (l.length) INF, undef, undef, undef, undef, undef, undef, undef, undef, undef, undef, undef, undef, undef, undef, undef, undef, undef, undef, undef, undef, undef, undef, undef, undef, undef, undef, undef, undef, undef, undef, undef, undef, undef, undef, undef, undef, undef, undef, undef, undef, undef, undef, undef, undef, undef, undef, undef, undef, undef]) Try.func56 rfl (hro) rfl fun E => ?_
    repeat' (first
      | with_reducible refine Then.n ?_
      | with_reducible refine Then.r ?_
      | with_reducible refine Then.x ?_
      | with_reducible refine InB.n ?_
      | with_reducible refine InB.r ?_
      | with_reducible refine InB.hit ?_
      | with_reducible refine InB.miss (by decide) ?_
      | ((with_reducible refine AL.on ?_); first
        | (refine AL.gd rfl ?_; first | (refine AL.gskip rfl rfl ?_; (conv => (arg 5; try tactic => exact nrm))) | (refine AL.gs1 rfl rfl (fun hc => ?_) (fun hc => ?_) <;> (try simp only [decide_eq_true_eq, decide_eq_false_iff_not, Bool.not_true, Bool.not_false, Bool.not_eq_true', Bool.not_eq_false', Int.not_lt, Int.not_le, Classical.not_not, ne_eq] at hc) <;> first | (exfalso; first | contradiction | (first | omega | (simp at *; done)); done) | (conv => (arg 5; try tactic => exact nrm))) | (refine AL.gs0 rfl rfl (fun hc => ?_) (fun hc => ?_) <;> (try simp only [decide_eq_true_eq, decide_eq_false_iff_not, Bool.not_true, Bool.not_false, Bool.not_eq_true', Bool.not_eq_false', Int.not_lt, Int.not_le, Classical.not_not, ne_eq] at hc) <;> first | (exfalso; first | contradiction | (first | omega | (simp at *; done)); done) | (conv => (arg 5; try tactic => exact nrm))))
        | ((first | ((with_reducible refine AL.k_move ?_); first | (refine AL.q rfl (OQ.move (by conv => lhs; whnf)) ?_)) | ((with_reducible refine AL.k_assign ?_); first | (refine AL.q rfl (OQ.assign (by conv => lhs; whnf)) ?_)) | ((with_reducible refine AL.k_call ?_); first | refine AL.q rfl (OQ.lenS (xt := 108) (r := (none, 4, true)) rfl (by kernel_rfl)) ?_) | ((with_reducible refine AL.k_binOp ?_); first | refine AL.q rfl (OQ.eql rfl rfl) ?_ | refine AL.q rfl (OQ.gtr rfl rfl) ?_ | refine AL.q rfl (OQ.lss rfl rfl) ?_ | refine AL.q rfl (OQ.addi rfl rfl (by omega)) ?_ | refine AL.q rfl (OQ.add rfl rfl) ?_) | ((with_reducible refine AL.k_load ?_); first | (refine AL.q rfl (OQ.load1 (ty := 3) rfl (by kernel_rfl) (by first | (first | exact g0 _ (by omega) | exact g1 _ (by omega) | exact g2 _ (by omega) | exact g3 _ (by omega)) | (conv => lhs; whnf))) ?_)) | ((with_reducible refine AL.k_unOp ?_); first | refine AL.q rfl (OQ.not rfl) ?_) | ((with_reducible refine AL.k_pick ?_); first | (refine AL.q rfl (OQ.pickT rfl (by with_reducible rfl) (by conv => lhs; whnf)) ?_) | (refine AL.q rfl (OQ.pickF rfl (by with_reducible rfl) (by conv => lhs; whnf)) ?_))); (conv => (arg 5; try tactic => exact nrm)))
        | ((first | ((with_reducible refine AL.k_call ?_); first | refine AL.pcall (g := 105) rfl (by kernel_rfl) rfl (HW _ _) ?_ | refine AL.pcall (g := 76) rfl (by kernel_rfl) rfl (HM _ _) ?_) | ((with_reducible refine AL.k_indexAddr ?_); first | refine AL.q rfl (OQ.idxAddr (ty := 108) (z := 4) (g := true) rfl rfl (by kernel_rfl) (by omega) (by omega)) ?_) | ((with_reducible refine AL.k_fieldAddr ?_); first | refine AL.q rfl (OQ.fieldA (ty := 117) (i := 0) (n := 1) (off := 0) (g := false) rfl (by kernel_rfl) (by decide)) ?_ | refine AL.q rfl (OQ.fieldA (ty := 117) (i := 1) (n := 1) (off := 1) (g := false) rfl (by kernel_rfl) (by decide)) ?_ | refine AL.q rfl (OQ.fieldA (ty := 117) (i := 2) (n := 1) (off := 2) (g := false) rfl (by kernel_rfl) (by decide)) ?_ | refine AL.q rfl (OQ.fieldA (ty := 117) (i := 3) (n := 1) (off := 3) (g := false) rfl (by kernel_rfl) (by decide)) ?_)); (conv => (arg 5; try tactic => exact nrm)))
        | (refine AL.bs rfl (fun hc => ?_) (fun hc => ?_) <;> (fail_if_success (with_reducible exact lit_no hc)) <;> (try simp only [decide_eq_true_eq, decide_eq_false_iff_not, Bool.not_true, Bool.not_false, Bool.not_eq_true', Bool.not_eq_false', Int.not_lt, Int.not_le, Classical.not_not, ne_eq] at hc) <;> first | (exfalso; first | contradiction | (first | omega | (simp at *; done)); done) | (conv => (arg 5; try tactic => exact nrm)))
        | refine AL.nil ?_)
      | ((with_reducible refine AW.on ?_); first
        | refine AW.seq ?_
        | refine AW.skip ?_
        | refine AW.exit ?_
        | refine AW.ret ?_
        | ((refine AW.block (id := 0) ?_); (refine AW.wk (Wk.forget [true, false, false, true, false, false, false, false, false, false, false, false, false, false, false, false, false, false, false, false, false, false, false, false, false, false, false, false, false, false, false, false, false, false, false, false, false, false, false, false, false, false, false, false, false, false, false, false, false, false] rfl) ?_); (conv => (arg 4; simp only [fgt, if_true, if_false, Bool.false_eq_true])); (refine AW.loop (fun n t' m => ∃ k : Nat, n = l.length - k ∧ k ≤ l.length ∧ (∀ i : Nat, i < k → spB (sp_ l i) = true) ∧ t' = [.slice (some ⟨0, 0, none⟩) (l.length) INF, junk, junk, .int .i64 (k), junk, junk, junk, junk, junk, junk, junk, junk, junk, junk, junk, junk, junk, junk, junk, junk, junk, junk, junk, junk, junk, junk, junk, junk, junk, junk, junk, junk, junk, junk, junk, junk, junk, junk, junk, junk, junk, junk, junk, junk, junk, junk, junk, junk, junk, junk] ∧ m = [some ⟨flatP l, false, z⟩]) (l.length) (by exact ⟨0, rfl, Nat.zero_le _, (by intro i h; omega), rfl, rfl⟩) ?_); (rintro n t' m ⟨k, rfl, hk, hki, rfl, rfl⟩))
        | refine AW.block ?_
        | refine AW.region ?_
        | (refine AW.conds rfl (fun hc => ?_) (fun hc => ?_) <;> (try simp only [decide_eq_true_eq, decide_eq_false_iff_not, Bool.not_true, Bool.not_false, Bool.not_eq_true', Bool.not_eq_false', Int.not_lt, Int.not_le, Classical.not_not, ne_eq] at hc) <;> first | (exfalso; first | contradiction | (first | omega | (simp at *; done)); done) | skip))
      | ((with_reducible refine ex_on ?_); (refine ⟨_, _, _, ?_, ?_, k + 1, rfl, (by omega), (by intro i hi; by_cases h : i = k; subst h; unfold spB; simp only [Bool.and_eq_true]; exact ⟨‹_›, ‹_›, ‹_›, ‹_›⟩; exact hki i (by omega)), rfl, rfl⟩; omega; exact Wk.forget [true, false, false, true, false, false, false, false, false, false, false, false, false, false, false, false, false, false, false, false, false, false, false, false, false, false, false, false, false, false, false, false, false, false, false, false, false, false, false, false, false, false, false, false, false, false, false, false, false, false] rfl))
      | ((with_reducible refine FinP.on ?_); (first | refine FinP.ret (.tmp (by conv => lhs; whnf) .nil) ?_ rfl | refine FinP.end (.tmp (by conv => lhs; whnf) .nil) ?_ rfl); (try simp only [pack, List.drop, List.take]); all_goals ((congr 1; first | (rw [e0 (by omega)]; done) | (rw [e1 (by omega)]; done) | (rw [e3 (by omega) (by omega) (by intro i hi; exact hki i (by omega))]; done) | (rw [e2 (by omega) (by omega) k (by omega) (by unfold spB; simp only [*, Bool.and_false, Bool.false_and, Bool.true_and])]; done)))))
end
end Go.Proofs.Ytnocdnhhlppahaa
