/- slices.Grow of nil, slices.Concat of lists of ranges. -/
/- Chapter 2 in plain Lean: ranges that touch are joined; where two orbits differ. -/
/- OrbitAgrees: ranges joined; the ticks of one orbit alone. -/
import Derived.Test.YthhhkjbhhjcjoaaGreatDoor02Rg2
import Derived.Test.YthhhkjbhhjcjoaaGreatDoorAbG
import Derived.Test.YthhhkjbhhjcjoaaGreatDoor02Own
import Derived.Test.YthhhkjbhhjcjoaaGreatDoor02Spec
import Derived.Test.YthhhkjbhhjcjoaaGreatDoorLs
set_option linter.unusedSimpArgs false
set_option linter.unusedVariables false
section
namespace Go.Proofs.YthhhkjbhhjcjoaaGreatDoor
open Go Go.RowKit Go.Ob Go.Ab
set_option maxRecDepth 100000
set_option maxHeartbeats 1000000
attribute [local irreducible] OQ OW AL AW AD AF SW

theorem Grow_c (n : Nat) (h0 : 0 < n) (h1 : n ≤ 1000000) : ACalls Tryz.prog 107 [.slice none 0 0, .int .i64 n] [] (.slice (some ⟨0, 0, none⟩) 0 INF) [some ⟨[], true, 2⟩] := by
  refine ACalls.enter (t := [.slice none 0 0, .int .i64 n, undef, undef, undef, undef, undef, undef, undef, undef, undef, undef, undef, undef, undef, undef, undef, undef, undef, undef, undef, undef, undef, undef, undef, undef, undef]) Tryz.func107 rfl rfl fun E hE => ?_
  repeat' (first
    | with_reducible refine Then.n ?_
    | with_reducible refine Then.r ?_
    | with_reducible refine Then.x ?_
    | with_reducible refine InB.n ?_
    | with_reducible refine InB.r ?_
    | with_reducible refine InB.hit ?_
    | with_reducible refine InB.miss (by decide) ?_
    | ((with_reducible refine AL.on ?_); first
      | ((first | ((with_reducible refine AL.k_move ?_); first | (refine AL.q rfl (OQ.move (by conv => lhs; whnf)) ?_)) | ((with_reducible refine AL.k_call ?_); first | refine AL.q rfl (OQ.capNil rfl Tryz.underlying55) ?_ | refine AL.q rfl (OQ.lenS (xt := 55) (r := (none, 2, true)) rfl (by kernel_rfl)) ?_) | ((with_reducible refine AL.k_assign ?_); first | (refine AL.q rfl (OQ.assign (by conv => lhs; whnf)) ?_)) | ((with_reducible refine AL.k_binOp ?_); first | refine AL.q rfl (OQ.lss rfl rfl) ?_ | refine AL.q rfl (OQ.subi rfl rfl (by omega)) ?_ | refine AL.q rfl (OQ.sub rfl rfl) ?_ | refine AL.q rfl (OQ.gtr rfl rfl) ?_) | refine AL.q rfl (by first | exact OQ.sliceNil (ty := 55) (z := (none, 2, true)) rfl (by kernel_rfl) rfl rfl | exact OQ.sliceS (ty := 55) (l := 0) (h := 0) (z := 2) (g := true) rfl (by kernel_rfl) rfl (.inr rfl) rfl rfl (by decide) (by decide) (by omega)) ?_); (conv => (arg 5; try tactic => exact nrm)))
      | ((first | first | refine AL.w rfl (OW.appendZ (e := 60) (z := 2) (by' := 16) (zs := [.int .i64 0, .int .i64 0]) rfl rfl (by kernel_rfl) Tryz.underlying3 (by kernel_rfl) (by kernel_rfl) rfl (by kernel_rfl) (by decide) (by omega) (by omega) (by omega)) ?_); (conv => (arg 5; try tactic => exact nrm)); (conv => (arg 6; try tactic => exact nrm)))
      | refine AL.nil ?_)
    | ((with_reducible refine AW.on ?_); first
      | refine AW.seq ?_
      | refine AW.skip ?_
      | refine AW.exit ?_
      | refine AW.ret ?_
      | refine AW.block ?_
      | (refine AW.region (id := 2) ?_; exfalso; omega; done)
      | refine AW.region ?_
      | (refine AW.conds rfl (fun hc => ?_) (fun hc => ?_) <;> (try simp only [decide_eq_true_eq, decide_eq_false_iff_not, Bool.not_true, Bool.not_false, Bool.not_eq_true', Bool.not_eq_false', Int.not_lt, Int.not_le, Classical.not_not, ne_eq] at hc) <;> first | (exfalso; first | contradiction | (omega); done) | skip))
    | ((with_reducible refine FinA.on ?_); (refine FinA.keep 0 [0] (.inl rfl) (.tmp (by conv => lhs; whnf) .nil) ?_ rfl (Nat.le_of_eq hE) rfl rfl ⟨⟨_, rfl, rfl, rfl, .inl ⟨rfl, rfl⟩⟩, trivial⟩; rfl)))
theorem Grow_q {m : Mem} (n : Nat) (h0 : 0 < n) (h1 : n ≤ 1000000) : ACalls Tryz.prog 107 [.slice none 0 0, .int .i64 n] m (.slice (some ⟨m.length, 0, none⟩) 0 INF) (m ++ [some ⟨[], true, 2⟩]) :=
  ACalls.viaN (m0 := []) (x := some ⟨[], true, 2⟩) (fun _ => 0) (Grow_c n h0 h1) (fun x bk hx => by simp [Mem.at] at hx) (fun x hx => absurd hx (by simp)) (fun blk h => by cases h; exact ⟨rfl, rfl⟩) rfl rfl (by simp [rn3, rn2, rn1, τn]) rfl
theorem Grow_0 (m : Mem) : PCalls Tryz.prog 107 [.slice none 0 0, .int .i64 0] m (.slice none 0 0) := by
  refine PCalls.any ?_ rfl rfl m
  refine PCalls.enter (t := [.slice none 0 0, .int .i64 0, undef, undef, undef, undef, undef, undef, undef, undef, undef, undef, undef, undef, undef, undef, undef, undef, undef, undef, undef, undef, undef, undef, undef, undef, undef]) Tryz.func107 rfl (ro_nil) rfl fun E => ?_
  repeat' (first
    | with_reducible refine Then.n ?_
    | with_reducible refine Then.r ?_
    | with_reducible refine Then.x ?_
    | with_reducible refine InB.n ?_
    | with_reducible refine InB.r ?_
    | with_reducible refine InB.hit ?_
    | with_reducible refine InB.miss (by decide) ?_
    | ((with_reducible refine AL.on ?_); first
      | ((first | ((with_reducible refine AL.k_move ?_); first | (refine AL.q rfl (OQ.move (by conv => lhs; whnf)) ?_)) | ((with_reducible refine AL.k_call ?_); first | refine AL.q rfl (OQ.capNil rfl Tryz.underlying55) ?_ | refine AL.q rfl (OQ.lenS (xt := 55) (r := (none, 2, true)) rfl (by kernel_rfl)) ?_) | ((with_reducible refine AL.k_assign ?_); first | (refine AL.q rfl (OQ.assign (by conv => lhs; whnf)) ?_)) | ((with_reducible refine AL.k_binOp ?_); first | refine AL.q rfl (OQ.lss rfl rfl) ?_ | refine AL.q rfl (OQ.subi rfl rfl (by omega)) ?_ | refine AL.q rfl (OQ.sub rfl rfl) ?_ | refine AL.q rfl (OQ.gtr rfl rfl) ?_)); (conv => (arg 5; try tactic => exact nrm)))
      | ((first | first | refine AL.w rfl (OW.appendZ (e := 60) (z := 2) (by' := 16) (zs := [.int .i64 0, .int .i64 0]) rfl rfl (by kernel_rfl) Tryz.underlying3 (by kernel_rfl) (by kernel_rfl) rfl (by kernel_rfl) (by decide) (by omega) (by omega) (by omega)) ?_); (conv => (arg 5; try tactic => exact nrm)); (conv => (arg 6; try tactic => exact nrm)))
      | refine AL.nil ?_)
    | ((with_reducible refine AW.on ?_); first
      | refine AW.seq ?_
      | refine AW.skip ?_
      | refine AW.exit ?_
      | refine AW.ret ?_
      | refine AW.block ?_
      | (refine AW.region (id := 2) ?_; exfalso; first | omega | (simp at *; done); done)
      | (refine AW.region (id := 5) ?_; exfalso; first | omega | (simp at *; done); done)
      | refine AW.region ?_
      | (refine AW.conds rfl (fun hc => ?_) (fun hc => ?_) <;> (try simp only [decide_eq_true_eq, decide_eq_false_iff_not, Bool.not_true, Bool.not_false, Bool.not_eq_true', Bool.not_eq_false', Int.not_lt, Int.not_le, Classical.not_not, ne_eq] at hc) <;> first | (exfalso; first | contradiction | (first | omega | (simp at *; done)); done) | skip))
    | ((with_reducible refine FinP.on ?_); (first | refine FinP.ret (.tmp (by conv => lhs; whnf) .nil) ?_ rfl | refine FinP.end (.tmp (by conv => lhs; whnf) .nil) ?_ rfl); (try simp only [pack, List.drop, List.take]); all_goals (rfl)))

/-- The first k lists in a row. -/
def catR (Ls : Nat → List (Int × Int)) : Nat → List (Int × Int)
  | 0 => []
  | k + 1 => catR Ls k ++ Ls k
theorem catR_len (Ls : Nat → List (Int × Int)) (k : Nat) : (catR Ls (k + 1)).length = (catR Ls k).length + (Ls k).length := by simp [catR]
theorem catR_flat (Ls : Nat → List (Int × Int)) (k : Nat) : flatR (catR Ls (k + 1)) = flatR (catR Ls k) ++ flatR (Ls k) := by simp [catR, flatR]
theorem catR_bd {Ls : Nat → List (Int × Int)} {n : Nat} (h : ∀ k, k < n → (Ls k).length ≤ 1000) : ∀ k, k ≤ n → (catR Ls k).length ≤ k * 1000
  | 0, _ => by simp [catR]
  | k + 1, hk => by
    have := catR_bd h k (by omega)
    have := h k (by omega)
    rw [catR_len]
    omega
/-- Where a list lies; an empty one lies anywhere. -/
def rgF (z : Nat) (L : List (Int × Int)) : Option Blk := some ⟨flatR L, false, if L = [] then z else 2⟩
theorem rgF_scal (z : Nat) (L : List (Int × Int)) : ∀ b, rgF z L = some b → b.cells.all Ab.scal = true := fun b h => by
  cases h
  exact flatR_scal L
/-- A list whose capacity is told. -/
def rgVc (c b : Nat) (L : List (Int × Int)) : Value := if L = [] then .slice none 0 0 else .slice (some ⟨b, 0, none⟩) L.length c
theorem rgVc_rn1 (σ : Nat → Nat) (c b : Nat) (L : List (Int × Int)) : rn1 σ (rgVc c b L) = rgVc c (σ b) L := by
  unfold rgVc
  split <;> rfl
theorem rgVc_ok1 {n c b : Nat} (L : List (Int × Int)) (h : b < n) : ok1 n (rgVc c b L) = true := by
  unfold rgVc
  split
  · rfl
  · simp [ok1, h]
abbrev ccB (cp : Nat → Nat) (Ls : Nat → List (Int × Int)) (z : Nat) : Blk := ⟨[rgVc (cp 0) 1 (Ls 0), rgVc (cp 1) 2 (Ls 1), rgVc (cp 2) 3 (Ls 2), rgVc (cp 3) 4 (Ls 3), rgVc (cp 4) 5 (Ls 4)], false, z⟩
theorem ccB_keep (cp : Nat → Nat) (Ls : Nat → List (Int × Int)) (z : Nat) (js : List Nat) : (ccB cp Ls z).cells.map (rn1 (kσ 6 js)) = (ccB cp Ls z).cells ∧ (ccB cp Ls z).cells.all (ok1 7) = true := by
  simp only [List.map_cons, List.map_nil, rgVc_rn1, List.all_cons, List.all_nil, Bool.and_true, Bool.and_eq_true]
  exact ⟨rfl, rgVc_ok1 _ (by decide), rgVc_ok1 _ (by decide), rgVc_ok1 _ (by decide), rgVc_ok1 _ (by decide), rgVc_ok1 _ (by decide)⟩
theorem cc_v (cp : Nat → Nat) (Ls : Nat → List (Int × Int)) (z k : Nat) (hk : k < 5) : (Ls k = [] ∧ (ccB cp Ls z).cells[k]? = some (.slice none 0 0)) ∨
    (Ls k ≠ [] ∧ (ccB cp Ls z).cells[k]? = some (.slice (some ⟨k + 1, 0, none⟩) (Ls k).length (cp k)) ∧ ∀ rest : Mem, Mem.ld (some (ccB cp Ls z) :: rgF z (Ls 0) :: rgF z (Ls 1) :: rgF z (Ls 2) :: rgF z (Ls 3) :: rgF z (Ls 4) :: rest) (k + 1) 0 ((Ls k).length * 2) = some (flatR (Ls k))) := by
  have hx : (ccB cp Ls z).cells[k]? = some (rgVc (cp k) (k + 1) (Ls k)) := by
    match k, hk with
    | 0, _ => rfl
    | 1, _ => rfl
    | 2, _ => rfl
    | 3, _ => rfl
    | 4, _ => rfl
  have hat : ∀ rest : Mem, Mem.at (some (ccB cp Ls z) :: rgF z (Ls 0) :: rgF z (Ls 1) :: rgF z (Ls 2) :: rgF z (Ls 3) :: rgF z (Ls 4) :: rest) (k + 1) = rgF z (Ls k) := fun rest => by
    match k, hk with
    | 0, _ => rfl
    | 1, _ => rfl
    | 2, _ => rfl
    | 3, _ => rfl
    | 4, _ => rfl
  by_cases h : Ls k = []
  · exact .inl ⟨h, by rw [hx, h]; rfl⟩
  · refine .inr ⟨h, by rw [hx]; exact congrArg some (if_neg h), fun rest => ?_⟩
    have := hat rest
    unfold Mem.ld
    rw [this]
    show (if 0 + (Ls k).length * 2 ≤ (flatR (Ls k)).length then some (((flatR (Ls k)).drop 0).take ((Ls k).length * 2)) else none) = _
    rw [flatR_len, if_pos (by omega), List.drop_zero, tk_all (flatR_len _)]

theorem Concat_c (cp : Nat → Nat) (Ls : Nat → List (Int × Int)) (z c : Nat) (hl : ∀ k, k < 5 → (Ls k).length ≤ 1000) (hne : catR Ls 5 ≠ []) :
    ACalls Tryz.prog 70 [.slice (some ⟨0, 0, none⟩) 5 c] [some (ccB cp Ls z), rgF z (Ls 0), rgF z (Ls 1), rgF z (Ls 2), rgF z (Ls 3), rgF z (Ls 4)]
      (rgV 6 (catR Ls 5)) [some (ccB cp Ls z), rgF z (Ls 0), rgF z (Ls 1), rgF z (Ls 2), rgF z (Ls 3), rgF z (Ls 4), rgB (catR Ls 5)] := by
  rw [show rgV 6 (catR Ls 5) = .slice (some ⟨6, 0, none⟩) (catR Ls 5).length INF from if_neg hne, show rgB (catR Ls 5) = some ⟨flatR (catR Ls 5), true, 2⟩ from if_neg hne]
  have hbd := catR_bd hl
  have h5 : 0 < (catR Ls 5).length := List.length_pos_iff.2 hne
  have h5b := hbd 5 (Nat.le_refl _)
  have hv := cc_v cp Ls z
  have hlen := catR_len Ls
  have hfl := catR_flat Ls
  have hkp := ccB_keep cp Ls z
  have hF := fun k => rgF_scal z (Ls k)
  have hcF := fun k => flatR_len (catR Ls k)
  have htk : ∀ k, flatR (catR Ls k) ++ flatR (Ls k) = List.take ((catR Ls k).length * 2) (flatR (catR Ls k)) ++ flatR (Ls k) := fun k => by rw [tk_all (hcF k)]
  have hsc : ∀ k, (flatR (catR Ls k) ++ flatR (Ls k)).all Ab.scal = true := fun k => by rw [← hfl k]; exact flatR_scal _
  generalize hB0 : ccB cp Ls z = B0 at *
  generalize hf0 : rgF z (Ls 0) = F0 at *
  generalize hf1 : rgF z (Ls 1) = F1 at *
  generalize hf2 : rgF z (Ls 2) = F2 at *
  generalize hf3 : rgF z (Ls 3) = F3 at *
  generalize hf4 : rgF z (Ls 4) = F4 at *
  have hF0 := hF 0
  have hF1 := hF 1
  have hF2 := hF 2
  have hF3 := hF 3
  have hF4 := hF 4
  rw [hf0] at hF0
  rw [hf1] at hF1
  rw [hf2] at hF2
  rw [hf3] at hF3
  rw [hf4] at hF4
  clear hf0 hf1 hf2 hf3 hf4 hB0 hF
  refine ACalls.enter (t := [.slice (some ⟨0, 0, none⟩) 5 c, undef, undef, undef, undef, undef, undef, undef, undef, undef, undef, undef, undef, undef, undef, undef, undef, undef, undef, undef, undef, undef, undef, undef, undef, undef, undef, undef, undef, undef, undef, undef, undef, undef, undef, undef]) Tryz.func70 rfl rfl fun E hE => ?_
  repeat' (first
    | with_reducible refine Then.n ?_
    | with_reducible refine Then.r ?_
    | with_reducible refine Then.x ?_
    | with_reducible refine InB.n ?_
    | with_reducible refine InB.r ?_
    | with_reducible refine InB.hit ?_
    | with_reducible refine InB.miss (by decide) ?_
    | ((with_reducible refine AL.on ?_); first
      | ((first | ((with_reducible refine AL.k_move ?_); first | (refine AL.q rfl (OQ.move (by conv => lhs; whnf)) ?_)) | ((with_reducible refine AL.k_assign ?_); first | (refine AL.q rfl (OQ.assign (by conv => lhs; whnf)) ?_)) | ((with_reducible refine AL.k_binOp ?_); first | refine AL.q rfl (OQ.lss rfl rfl) ?_ | refine AL.q rfl (OQ.addi rfl rfl (by omega)) ?_ | refine AL.q rfl (OQ.add rfl rfl) ?_) | ((with_reducible refine AL.k_call ?_); first | refine AL.q rfl (OQ.lenS (xt := 168) (r := (none, 1, false)) rfl (by kernel_rfl)) ?_ | refine AL.q rfl (OQ.lenS (xt := 55) (r := (none, 2, true)) rfl (by kernel_rfl)) ?_) | ((with_reducible refine AL.k_load ?_); first | (refine AL.q rfl (OQ.load1 (ty := 55) rfl (by kernel_rfl) (by first | (exact hx) | (conv => lhs; whnf))) ?_))); (conv => (arg 5; try tactic => exact nrm)))
      | ((first | first | refine AL.q rfl (OQ.idxAddr (ty := 168) (z := 1) (g := false) rfl rfl (by kernel_rfl) (by omega) (by omega)) ?_); (conv => (arg 5; try tactic => exact nrm)))
      | ((first | first | refine AL.acall (g := 107) rfl (by kernel_rfl) rfl ((Grow_q _ (by omega) (by omega))) ?_ | refine AL.q rfl (OQ.append0 (v := undef) (z := 2) (e := 60) rfl rfl (by kernel_rfl) (by kernel_rfl)) ?_ | (refine AL.w rfl (OW.append (n := (catR Ls k).length) (b := 6) (bx := k + 1) (k := (Ls k).length) (z := 2) (by' := 16) (zs := [.int .i64 0, .int .i64 0]) (e := 60) rfl rfl (by kernel_rfl) (by kernel_rfl) (by kernel_rfl) rfl (by kernel_rfl) (by omega) rfl rfl rfl (by decide) (by rw [hcF]; exact Nat.le_refl _) (hm _) (one_of_scal (flatR_scal _)) (by omega) (by omega)) ?_)); (conv => (arg 5; try tactic => exact nrm)); (conv => (arg 6; try tactic => exact nrm)))
      | refine AL.nil ?_)
    | ((with_reducible refine AW.on ?_); first
      | refine AW.seq ?_
      | refine AW.skip ?_
      | refine AW.exit ?_
      | refine AW.ret ?_
      | ((refine AW.block (id := 0) ?_); (refine AW.wk (Wk.forget [true, false, false, true, false, false, false, false, false, true, true, true, false, false, false, false, false, false, false, false, false, false, false, false, false, false, false, false, false, false, false, false, false, false, false, false] rfl) ?_); (conv => (arg 4; simp only [fgt, if_true, if_false, Bool.false_eq_true])); (refine AW.loop (fun n t' m => ∃ k : Nat, n = 5 - k ∧ k ≤ 5 ∧ t' = [.slice (some ⟨0, 0, none⟩) 5 c, junk, junk, .int .i64 ((catR Ls k).length), junk, junk, junk, junk, junk, .slice (some ⟨0, 0, none⟩) 5 c, .int .i64 (5), .int .i64 (k), junk, junk, junk, junk, junk, junk, junk, junk, junk, junk, junk, junk, junk, junk, junk, junk, junk, junk, junk, junk, junk, junk, junk, junk] ∧ m = [some B0, F0, F1, F2, F3, F4]) (5) (by exact ⟨0, rfl, Nat.zero_le _, rfl, rfl⟩) ?_); (rintro n t' m ⟨k, rfl, hk, rfl, rfl⟩))
      | ((refine AW.block (id := 2) ?_); (refine AW.wk (Wk.forget [false, false, false, false, false, false, true, false, false, false, false, false, false, false, false, false, false, false, false, false, false, false, false, false, false, true, true, true, false, false, false, false, false, false, false, false] rfl) ?_); (conv => (arg 4; simp only [fgt, if_true, if_false, Bool.false_eq_true])); (refine AW.loop (fun n t' m => ∃ k : Nat, n = 5 - k ∧ k ≤ 5 ∧ t' = [junk, junk, junk, junk, junk, junk, .slice (some ⟨6, 0, none⟩) (catR Ls k).length INF, junk, junk, junk, junk, junk, junk, junk, junk, junk, junk, junk, junk, junk, junk, junk, junk, junk, junk, .slice (some ⟨0, 0, none⟩) 5 c, .int .i64 (5), .int .i64 (k), junk, junk, junk, junk, junk, junk, junk, junk] ∧ m = [some B0, F0, F1, F2, F3, F4, some ⟨flatR (catR Ls k), true, 2⟩]) (5) (by exact ⟨0, rfl, Nat.zero_le _, rfl, rfl⟩) ?_); (rintro n t' m ⟨k, rfl, hk, rfl, rfl⟩))
      | refine AW.block ?_
      | (refine AW.region (id := 4) ?_; (have hk5 : k < 5 := by omega); all_goals (have hbk := hbd k (by omega)); all_goals (have hlk := hl k hk5); all_goals (have hs : ((catR Ls (k + 1)).length : Int) = (catR Ls k).length + (Ls k).length := by rw [hlen]; omega); all_goals (rcases hv k hk5 with ⟨hn, hx⟩ | ⟨hn, hx, hm⟩); all_goals ((try rw [hn, List.length_nil] at hs)))
      | (refine AW.region (id := 7) ?_; exfalso; omega; done)
      | (refine AW.region (id := 9) ?_; (obtain rfl : k = 5 := by omega))
      | (refine AW.region (id := 12) ?_; (have hk5 : k < 5 := by omega); all_goals (have hbk := hbd k (by omega)); all_goals (have hlk := hl k hk5); all_goals (rcases hv k hk5 with ⟨hn, hx⟩ | ⟨hn, hx, hm⟩); all_goals ((try have hcat : catR Ls (k + 1) = catR Ls k := by show catR Ls k ++ Ls k = _; rw [hn, List.append_nil])); all_goals ((try have hkp1 : 0 < (Ls k).length := List.length_pos_iff.2 hn)))
      | (refine AW.region (id := 15) ?_; (obtain rfl : k = 5 := by omega))
      | refine AW.region ?_
      | (refine AW.conds rfl (fun hc => ?_) (fun hc => ?_) <;> (try simp only [decide_eq_true_eq, decide_eq_false_iff_not, Bool.not_true, Bool.not_false, Bool.not_eq_true', Bool.not_eq_false', Int.not_lt, Int.not_le, Classical.not_not, ne_eq] at hc) <;> first | (exfalso; first | contradiction | (omega); done) | skip))
    | ((with_reducible refine ex_on ?_); first | (exact ⟨5 - (k + 1), _, _, by omega, Wk.forget [true, false, false, true, false, false, false, false, false, true, true, true, false, false, false, false, false, false, false, false, false, false, false, false, false, false, false, false, false, false, false, false, false, false, false, false] rfl, k + 1, rfl, by omega, by rw [hs]; rfl, rfl⟩) | (first   | exact ⟨5 - (k + 1), _, _, by omega, Wk.forget [false, false, false, false, false, false, true, false, false, false, false, false, false, false, false, false, false, false, false, false, false, false, false, false, false, true, true, true, false, false, false, false, false, false, false, false] rfl, k + 1, rfl, by omega, by rw [hcat]; rfl, by rw [hcat]⟩   | (refine ⟨5 - (k + 1), [junk, junk, junk, junk, junk, junk, .slice (some ⟨6, 0, none⟩) ((catR Ls k).length + (Ls k).length) INF, junk, junk, junk, junk, junk, junk, junk, junk, junk, junk, junk, junk, junk, junk, junk, junk, junk, junk, .slice (some ⟨0, 0, none⟩) 5 c, .int .i64 (5), .int .i64 (k + 1), junk, junk, junk, junk, junk, junk, junk, junk], [some B0, F0, F1, F2, F3, F4, some ⟨flatR (catR Ls k) ++ flatR (Ls k), true, 2⟩], by omega, ?_, k + 1, rfl, by omega, by rw [hlen]; rfl, by rw [hfl]⟩; exact Wk.keep 6 [7] (Nat.le_of_eq hE) rfl rfl (by repeat (first | exact RenT.nil | refine RenT.junk ?_ | refine RenT.val (by first | rfl | with_reducible assumption | (simp only [rn3, rn2, rn1, kσ]; done)) (by first | rfl | assumption | (simp [ok3, ok2, ok1]; done)) ?_)) ⟨⟨_, rfl, rfl, rfl, .inr (hkp _)⟩, memRen_opt rfl hF0 (memRen_opt rfl hF1 (memRen_opt rfl hF2 (memRen_opt rfl hF3 (memRen_opt rfl hF4 ⟨⟨_, rfl, rfl, rfl, .inl ⟨htk k, hsc k⟩⟩, trivial⟩))))⟩)))
    | ((with_reducible refine FinA.on ?_); (refine FinA.keep 6 [6] (.inl rfl) (.tmp (by conv => lhs; whnf) .nil) ?_ rfl (Nat.le_of_eq hE) rfl rfl ⟨⟨_, rfl, rfl, rfl, .inr (hkp _)⟩, memRen_opt rfl hF0 (memRen_opt rfl hF1 (memRen_opt rfl hF2 (memRen_opt rfl hF3 (memRen_opt rfl hF4 ⟨⟨_, rfl, rfl, rfl, .inl ⟨rfl, flatR_scal _⟩⟩, trivial⟩))))⟩; rfl)))

def ccT (Ls : Nat → List (Int × Int)) (i : Nat) (b : Nat → Nat) : Nat → Nat
  | 0 => i
  | k + 1 => if Ls k = [] then i else b k
/-- Five lists in a row. -/
theorem Concat_q {m : Mem} {i c : Nat} {B : Blk} {b cp : Nat → Nat} (Ls : Nat → List (Int × Int)) (hi : m.at i = some B) (hB : B.cells = [rgVc (cp 0) (b 0) (Ls 0), rgVc (cp 1) (b 1) (Ls 1), rgVc (cp 2) (b 2) (Ls 2), rgVc (cp 3) (b 3) (Ls 3), rgVc (cp 4) (b 4) (Ls 4)])
    (hb : ∀ k, k < 5 → m.at (b k) = rgB (Ls k)) (hl : ∀ k, k < 5 → (Ls k).length ≤ 1000) (hne : catR Ls 5 ≠ []) :
    ACalls Tryz.prog 70 [.slice (some ⟨i, 0, none⟩) 5 c] m (rgV m.length (catR Ls 5)) (m ++ [rgB (catR Ls 5)]) := by
  have hF : ∀ k, k < 5 → ∃ blk, m.at (if Ls k = [] then i else b k) = some blk ∧ blk.esz = (if Ls k = [] then B.esz else 2) ∧ ∀ (j : Nat) (v : Value), (flatR (Ls k))[j]? = some v → blk.cells[j]? = some v := fun k hk => by
    by_cases h : Ls k = []
    · rw [if_pos h, if_pos h, h]
      exact ⟨B, hi, rfl, fun j v hv => by simp [flatR] at hv⟩
    · rw [if_neg h, if_neg h, hb k hk]
      exact ⟨_, if_neg h, rfl, fun j v hv => hv⟩
  have hone : ∀ (τ : Nat → Nat) (k : Nat), k < 5 → (∃ blk, m.at (τ (k + 1)) = some blk ∧ blk.esz = (if Ls k = [] then B.esz else 2) ∧ ∀ (j : Nat) (v : Value), (flatR (Ls k))[j]? = some v → blk.cells[j]? = some v) →
      (⟨flatR (Ls k), false, if Ls k = [] then B.esz else 2⟩ : Blk).own = false ∧ (flatR (Ls k)).all (ok1 6) = true ∧ ∃ blk, m.at (τ (k + 1)) = some blk ∧ blk.esz = (if Ls k = [] then B.esz else 2) ∧ ∀ (j : Nat) (v : Value), (flatR (Ls k))[j]? = some v → blk.cells[j]? = some (rn1 τ v) := fun τ k hk ⟨blk, h1, h2, h3⟩ =>
    ⟨rfl, ok1_of_scal (flatR_scal _), blk, h1, h2, fun j v hv => by
      rw [rn1_scal (List.all_eq_true.1 (flatR_scal _) v (List.mem_of_getElem? hv))]
      exact h3 j v hv⟩
  refine ACalls.viaN (m0 := [some (ccB cp Ls B.esz), rgF B.esz (Ls 0), rgF B.esz (Ls 1), rgF B.esz (Ls 2), rgF B.esz (Ls 3), rgF B.esz (Ls 4)]) (x := rgB (catR Ls 5))
    (ccT Ls i b) (Concat_c cp Ls B.esz c hl hne) (fun x bk hx => ?_) (fun x hx => ?_) (rgB_scal _) rfl rfl ?_ (rgV_ok _ (by simp))
  · have := Mem.at_lt hx
    match x, this with
    | 0, _ =>
      cases hx
      refine ⟨rfl, ?_, B, hi, rfl, fun j v hv => ?_⟩
      · simp only [List.all_cons, List.all_nil, Bool.and_true, Bool.and_eq_true]
        exact ⟨rgVc_ok1 _ (by simp), rgVc_ok1 _ (by simp), rgVc_ok1 _ (by simp), rgVc_ok1 _ (by simp), rgVc_ok1 _ (by simp)⟩
      · rw [hB]
        have hz : ∀ k, rn1 (ccT Ls i b) (rgVc (cp k) (k + 1) (Ls k)) = rgVc (cp k) (b k) (Ls k) := fun k => by
          rw [rgVc_rn1]
          show rgVc (cp k) (if Ls k = [] then i else b k) (Ls k) = _
          by_cases h : Ls k = []
          · rw [h]; rfl
          · rw [if_neg h]
        match j with
        | 0 => cases hv; exact congrArg some (hz 0).symm
        | 1 => cases hv; exact congrArg some (hz 1).symm
        | 2 => cases hv; exact congrArg some (hz 2).symm
        | 3 => cases hv; exact congrArg some (hz 3).symm
        | 4 => cases hv; exact congrArg some (hz 4).symm
        | j + 5 => simp at hv
    | 1, _ => cases hx; exact hone (ccT Ls i b) 0 (by decide) (hF 0 (by decide))
    | 2, _ => cases hx; exact hone (ccT Ls i b) 1 (by decide) (hF 1 (by decide))
    | 3, _ => cases hx; exact hone (ccT Ls i b) 2 (by decide) (hF 2 (by decide))
    | 4, _ => cases hx; exact hone (ccT Ls i b) 3 (by decide) (hF 3 (by decide))
    | 5, _ => cases hx; exact hone (ccT Ls i b) 4 (by decide) (hF 4 (by decide))
    | x + 6, h => exact absurd h (by simp)
  · match x, hx with
    | 0, _ => exact ⟨_, rfl⟩
    | 1, _ => exact ⟨_, rfl⟩
    | 2, _ => exact ⟨_, rfl⟩
    | 3, _ => exact ⟨_, rfl⟩
    | 4, _ => exact ⟨_, rfl⟩
    | 5, _ => exact ⟨_, rfl⟩
    | x + 6, h => exact absurd h (by simp)
  · rw [rgV_rn]
    simp [τn]

theorem Concat_0c (z c : Nat) : PCalls Tryz.prog 70 [.slice (some ⟨0, 0, none⟩) 5 c] [some ⟨[.slice none 0 0, .slice none 0 0, .slice none 0 0, .slice none 0 0, .slice none 0 0], false, z⟩] (.slice none 0 0) := by
  refine PCalls.enter (t := [.slice (some ⟨0, 0, none⟩) 5 c, undef, undef, undef, undef, undef, undef, undef, undef, undef, undef, undef, undef, undef, undef, undef, undef, undef, undef, undef, undef, undef, undef, undef, undef, undef, undef, undef, undef, undef, undef, undef, undef, undef, undef, undef]) Tryz.func70 rfl (ro1 _ rfl) rfl fun E => ?_
  repeat' (first
    | with_reducible refine Then.n ?_
    | with_reducible refine Then.r ?_
    | with_reducible refine Then.x ?_
    | with_reducible refine InB.n ?_
    | with_reducible refine InB.r ?_
    | with_reducible refine InB.hit ?_
    | with_reducible refine InB.miss (by decide) ?_
    | ((with_reducible refine AL.on ?_); first
      | ((first | ((with_reducible refine AL.k_move ?_); first | (refine AL.q rfl (OQ.move (by conv => lhs; whnf)) ?_)) | ((with_reducible refine AL.k_assign ?_); first | (refine AL.q rfl (OQ.assign (by conv => lhs; whnf)) ?_)) | ((with_reducible refine AL.k_binOp ?_); first | refine AL.q rfl (OQ.lss rfl rfl) ?_ | refine AL.q rfl (OQ.addi rfl rfl (by omega)) ?_ | refine AL.q rfl (OQ.add rfl rfl) ?_) | ((with_reducible refine AL.k_call ?_); first | refine AL.q rfl (OQ.lenS (xt := 168) (r := (none, 1, false)) rfl (by kernel_rfl)) ?_ | refine AL.q rfl (OQ.lenS (xt := 55) (r := (none, 2, true)) rfl (by kernel_rfl)) ?_ | refine AL.q rfl (OQ.append0 (v := undef) (z := 2) (e := 60) rfl rfl (by kernel_rfl) (by kernel_rfl)) ?_) | ((with_reducible refine AL.k_indexAddr ?_); first | refine AL.q rfl (OQ.idxAddr (ty := 168) (z := 1) (g := false) rfl rfl (by kernel_rfl) (by omega) (by omega)) ?_) | ((with_reducible refine AL.k_load ?_); first | (refine AL.q rfl (OQ.load1 (ty := 55) rfl (by kernel_rfl) (by conv => lhs; whnf)) ?_))); (conv => (arg 5; try tactic => exact nrm)))
      | ((first | first | refine AL.pcall (g := 107) rfl (by kernel_rfl) rfl (Grow_0 _) ?_); (conv => (arg 5; try tactic => exact nrm)))
      | refine AL.nil ?_)
    | ((with_reducible refine AW.on ?_); first
      | refine AW.seq ?_
      | refine AW.skip ?_
      | refine AW.exit ?_
      | refine AW.ret ?_
      | (refine AW.block (id := 0) ?_; refine AW.unroll 6 ?_)
      | (refine AW.block (id := 2) ?_; refine AW.unroll 6 ?_)
      | refine AW.block ?_
      | (refine AW.region (id := 7) ?_; exfalso; first | omega | (simp at *; done); done)
      | refine AW.region ?_
      | (refine AW.conds rfl (fun hc => ?_) (fun hc => ?_) <;> (try simp only [decide_eq_true_eq, decide_eq_false_iff_not, Bool.not_true, Bool.not_false, Bool.not_eq_true', Bool.not_eq_false', Int.not_lt, Int.not_le, Classical.not_not, ne_eq] at hc) <;> first | (exfalso; first | contradiction | (first | omega | (simp at *; done)); done) | skip))
    | with_reducible refine AR.s ?_
    | ((with_reducible refine AR.out ?_); first | omega | (simp at *; done); done)
    | ((with_reducible refine FinP.on ?_); (first | refine FinP.ret (.tmp (by conv => lhs; whnf) .nil) ?_ rfl | refine FinP.end (.tmp (by conv => lhs; whnf) .nil) ?_ rfl); (try simp only [pack, List.drop, List.take]); all_goals (rfl)))
theorem Concat_0 {m : Mem} {i c : Nat} {B : Blk} (hi : m.at i = some B) (hB : B.cells = [.slice none 0 0, .slice none 0 0, .slice none 0 0, .slice none 0 0, .slice none 0 0]) :
    PCalls Tryz.prog 70 [.slice (some ⟨i, 0, none⟩) 5 c] m (.slice none 0 0) :=
  PCalls.via1 (fun z => Concat_0c z c) hi hB rfl rfl rfl rfl rfl
end Go.Proofs.YthhhkjbhhjcjoaaGreatDoor
end

section
namespace Go.Proofs.YthhhkjbhhjcjoaaGreatDoor
open Go.Ob
/-- One range more. -/
def jn1 (L : List (Int × Int)) (r : Int × Int) : List (Int × Int) :=
  match L.getLast? with
  | some q => if q.2 = r.1 - 1 then L.dropLast ++ [(q.1, r.2)] else L ++ [r]
  | none => [r]
theorem jn1_nil (r : Int × Int) : jn1 [] r = [r] := rfl
theorem jn1_last (L : List (Int × Int)) (a b : Int) (r : Int × Int) (h : b = r.1 - 1) : jn1 (L ++ [(a, b)]) r = L ++ [(a, r.2)] := by simp [jn1, h]
theorem jn1_new (L : List (Int × Int)) (a b : Int) (r : Int × Int) (h : b ≠ r.1 - 1) : jn1 (L ++ [(a, b)]) r = L ++ [(a, b)] ++ [r] := by simp [jn1, h]
theorem grow_eq (L : List (Int × Int)) (t : Int) : grow L t = jn1 L (t, t) := by unfold grow jn1; cases L.getLast? <;> rfl
theorem grow_jn1 (P : List (Int × Int)) (a b t : Int) (h : t = b + 1) : grow (jn1 P (a, b)) t = jn1 P (a, t) := by
  subst h
  rw [grow_eq]
  rcases List.eq_nil_or_concat P with h | ⟨L, ⟨x, y⟩, h⟩
  · subst h
    rw [jn1_nil, jn1_nil]
    exact jn1_last [] a b _ (by simp only; omega)
  · rw [List.concat_eq_append] at h
    subst h
    by_cases e : y = a - 1
    · rw [jn1_last L x y (a, b) e, jn1_last L x y (a, b + 1) e]
      exact jn1_last _ _ _ _ (by simp only; omega)
    · rw [jn1_new L x y (a, b) e, jn1_new L x y (a, b + 1) e]
      exact jn1_last _ _ _ _ (by simp only; omega)
/-- Ranges with the numbers behind them of which something is so. -/
def rf (P : List (Int × Int)) (T : Int → Bool) (a : Int) : Nat → List (Int × Int)
  | 0 => P
  | k + 1 => if T (a + k) = true then grow (rf P T a k) (a + k) else rf P T a k
theorem rf_nil (T : Int → Bool) (a : Int) : ∀ k, rf [] T a k = runTo T a k
  | 0 => rfl
  | k + 1 => by unfold rf runTo; rw [rf_nil T a k]
theorem rf_add (P : List (Int × Int)) (T : Int → Bool) (a : Int) (j : Nat) : ∀ k, rf P T a (j + k) = rf (rf P T a j) T (a + j) k
  | 0 => rfl
  | k + 1 => by
    rw [← Nat.add_assoc]
    unfold rf
    rw [rf_add P T a j k, show a + ((j + k : Nat) : Int) = a + j + k by omega]
theorem rf_none {P : List (Int × Int)} {T : Int → Bool} {a : Int} : ∀ k : Nat, (∀ i : Nat, i < k → T (a + i) = false) → rf P T a k = P
  | 0, _ => rfl
  | k + 1, h => by
    unfold rf
    rw [h k (by omega), if_neg (by simp)]
    exact rf_none k fun i hi => h i (by omega)
theorem rf_all {P : List (Int × Int)} {T : Int → Bool} {a : Int} : ∀ k : Nat, (∀ i : Nat, i ≤ k → T (a + i) = true) → rf P T a (k + 1) = jn1 P (a, a + k)
  | 0, h => by
    unfold rf rf
    rw [h 0 (by omega), if_pos rfl, grow_eq]
    simp
  | k + 1, h => by
    rw [rf, h (k + 1) (by omega), if_pos rfl, rf_all k fun i hi => h i (by omega)]
    exact grow_jn1 _ _ _ _ (by omega)
theorem rf_congr {P : List (Int × Int)} {T T' : Int → Bool} {a : Int} : ∀ k : Nat, (∀ i : Nat, i < k → T (a + i) = T' (a + i)) → rf P T a k = rf P T' a k
  | 0, _ => rfl
  | k + 1, h => by
    unfold rf
    rw [h k (by omega), rf_congr k fun i hi => h i (by omega)]
theorem fold_run (P : List (Int × Int)) (D : Int → Bool) (lo : Int) : ∀ k, (runTo D lo k).foldl jn1 P = rf P D lo k
  | 0 => rfl
  | k + 1 => by
    have ih := fold_run P D lo k
    unfold runTo rf
    by_cases h : D (lo + k) = true
    · rw [if_pos h, if_pos h, ← ih]
      rcases List.eq_nil_or_concat (runTo D lo k) with e | ⟨L, ⟨x, y⟩, e⟩
      · rw [e]
        show jn1 P (lo + k, lo + k) = grow P (lo + k)
        rw [grow_eq]
      · rw [List.concat_eq_append] at e
        rw [e]
        by_cases hy : y = lo + k - 1
        · rw [grow_eq, jn1_last _ _ _ _ hy, List.foldl_append, List.foldl_append]
          exact (grow_jn1 _ _ _ _ (by omega)).symm
        · rw [grow_eq, jn1_new _ _ _ _ hy, List.foldl_append, grow_eq]
          rfl
    · rw [if_neg h, if_neg h]
      exact ih

/-- Where two orbits differ, of which one has the ticks from a0 to a1 and the other those from b0 to b1. -/
def tch (a0 a1 b0 b1 : Int) (D : Int → Bool) (t : Int) : Bool := (rngB t a0 a1 != rngB t b0 b1) || (rngB t a0 a1 && D t)
def tchL (a0 a1 b0 b1 : Int) (D : Int → Bool) : List (Int × Int) := runTo (tch a0 a1 b0 b1 D) (if b0 < a0 then b0 else a0) ((if b1 < a1 then a1 else b1) - (if b0 < a0 then b0 else a0) + 1).toNat
theorem tch_both {a0 a1 b0 b1 : Int} {D : Int → Bool} {t : Int} (h : a0 ≤ t ∧ t ≤ a1) (h' : b0 ≤ t ∧ t ≤ b1) : tch a0 a1 b0 b1 D t = D t := by
  unfold tch
  rw [rngB_true.2 h, rngB_true.2 h']
  simp
theorem tch_one {a0 a1 b0 b1 : Int} {D : Int → Bool} {t : Int} (h : (a0 ≤ t ∧ t ≤ a1) ∧ ¬ (b0 ≤ t ∧ t ≤ b1) ∨ ¬ (a0 ≤ t ∧ t ≤ a1) ∧ b0 ≤ t ∧ t ≤ b1) : tch a0 a1 b0 b1 D t = true := by
  unfold tch
  rcases h with ⟨h, h'⟩ | ⟨h, h'⟩
  · rw [rngB_true.2 h, rngB_false.2 h']; rfl
  · rw [rngB_false.2 h, rngB_true.2 h']; rfl
theorem tch_no {a0 a1 b0 b1 : Int} {D : Int → Bool} {t : Int} (h : ¬ (a0 ≤ t ∧ t ≤ a1)) (h' : ¬ (b0 ≤ t ∧ t ≤ b1)) : tch a0 a1 b0 b1 D t = false := by
  unfold tch
  rw [rngB_false.2 h, rngB_false.2 h']
  rfl
theorem tch_comm (a0 a1 b0 b1 : Int) (D : Int → Bool) : tch a0 a1 b0 b1 D = tch b0 b1 a0 a1 D := by
  funext t
  unfold tch
  cases rngB t a0 a1 <;> cases rngB t b0 b1 <;> cases D t <;> rfl
theorem tchL_comm (a0 a1 b0 b1 : Int) (D : Int → Bool) : tchL a0 a1 b0 b1 D = tchL b0 b1 a0 a1 D := by
  unfold tchL
  rw [tch_comm, show (if b0 < a0 then b0 else a0) = if a0 < b0 then a0 else b0 by split <;> split <;> omega, show (if b1 < a1 then a1 else b1) = if a1 < b1 then b1 else a1 by split <;> split <;> omega]
/-- The ticks of one orbit ahead of a tick, and behind another one. -/
def befR (x0 x1 lo : Int) : List (Int × Int) := if x0 ≤ (if lo - 1 < x1 then lo - 1 else x1) then [(x0, if lo - 1 < x1 then lo - 1 else x1)] else []
def aftR (x0 x1 hi : Int) : List (Int × Int) := if (if x0 < hi + 1 then hi + 1 else x0) ≤ x1 then [(if x0 < hi + 1 then hi + 1 else x0, x1)] else []
theorem befR_nil {x0 x1 lo : Int} (h : lo ≤ x0) : befR x0 x1 lo = [] := by
  unfold befR
  rw [if_neg (by split <;> omega)]
theorem befR_one {x0 x1 lo : Int} (h : x0 < lo) (h1 : lo ≤ x1) : befR x0 x1 lo = [(x0, lo - 1)] := by
  unfold befR
  rw [if_pos (show lo - 1 < x1 by omega), if_pos (by omega)]
theorem aftR_nil {x0 x1 hi : Int} (h : x1 ≤ hi) : aftR x0 x1 hi = [] := by
  unfold aftR
  rw [if_neg (by split <;> omega)]
theorem aftR_one {x0 x1 hi : Int} (h : hi < x1) (h1 : x0 ≤ hi) : aftR x0 x1 hi = [(hi + 1, x1)] := by
  unfold aftR
  rw [if_pos (show x0 < hi + 1 by omega), if_pos (by omega)]
theorem befR_in (x0 x1 lo : Int) : (befR x0 x1 lo).length ≤ 1 ∧ ∀ r ∈ befR x0 x1 lo, r.1 = x0 := by
  unfold befR
  by_cases h : x0 ≤ (if lo - 1 < x1 then lo - 1 else x1)
  · rw [if_pos h]
    exact ⟨Nat.le_refl _, fun r hr => by rw [List.mem_singleton.1 hr]⟩
  · rw [if_neg h]
    exact ⟨Nat.zero_le _, fun r hr => by cases hr⟩
theorem aftR_in (x0 x1 hi : Int) : (aftR x0 x1 hi).length ≤ 1 ∧ ∀ r ∈ aftR x0 x1 hi, r.1 = if x0 < hi + 1 then hi + 1 else x0 := by
  unfold aftR
  by_cases h : (if x0 < hi + 1 then hi + 1 else x0) ≤ x1
  · rw [if_pos h]
    exact ⟨Nat.le_refl _, fun r hr => by rw [List.mem_singleton.1 hr]⟩
  · rw [if_neg h]
    exact ⟨Nat.zero_le _, fun r hr => by cases hr⟩
section
variable {a0 a1 b0 b1 : Int} {D : Int → Bool}
theorem fold_bef {lo m : Int} (hlo : lo = if a0 < b0 then b0 else a0) (hm : m = if b0 < a0 then b0 else a0) (h0 : lo ≤ a1) (h1 : lo ≤ b1) :
    (befR a0 a1 lo ++ befR b0 b1 lo).foldl jn1 [] = rf [] (tch a0 a1 b0 b1 D) m (lo - m).toNat := by
  by_cases h : a0 < b0
  · rw [if_pos h] at hlo
    rw [if_neg (by omega)] at hm
    subst hlo hm
    rw [befR_one h h0, befR_nil (Int.le_refl _)]
    obtain ⟨k, hk⟩ : ∃ k : Nat, (lo - m).toNat = k + 1 := ⟨(lo - m).toNat - 1, by omega⟩
    rw [hk, rf_all k fun i hi => tch_one (.inl ⟨by omega, by omega⟩)]
    show jn1 [] (m, lo - 1) = _
    rw [show m + (k : Int) = lo - 1 by omega]
  · rw [if_neg h] at hlo
    by_cases h' : b0 < a0
    · rw [if_pos h'] at hm
      subst hlo hm
      rw [befR_nil (Int.le_refl _), befR_one h' h1]
      obtain ⟨k, hk⟩ : ∃ k : Nat, (lo - m).toNat = k + 1 := ⟨(lo - m).toNat - 1, by omega⟩
      rw [hk, rf_all k fun i hi => tch_one (.inr ⟨by omega, by omega⟩)]
      show jn1 [] (m, lo - 1) = _
      rw [show m + (k : Int) = lo - 1 by omega]
    · rw [if_neg h'] at hm
      rw [befR_nil (by omega), befR_nil (by omega), show (lo - m).toNat = 0 by omega]
      rfl
theorem fold_aft {hi M : Int} (P : List (Int × Int)) (hhi : hi = if b1 < a1 then b1 else a1) (hM : M = if b1 < a1 then a1 else b1) (h0 : a0 ≤ hi) (h1 : b0 ≤ hi) :
    (aftR a0 a1 hi ++ aftR b0 b1 hi).foldl jn1 P = rf P (tch a0 a1 b0 b1 D) (hi + 1) (M - hi).toNat := by
  by_cases h : b1 < a1
  · rw [if_pos h] at hhi hM
    subst hhi hM
    rw [aftR_one h h0, aftR_nil (Int.le_refl _)]
    obtain ⟨k, hk⟩ : ∃ k : Nat, (M - hi).toNat = k + 1 := ⟨(M - hi).toNat - 1, by omega⟩
    rw [hk, rf_all k fun i hi => tch_one (.inl ⟨by omega, by omega⟩)]
    show jn1 P (hi + 1, M) = _
    rw [show hi + 1 + (k : Int) = M by omega]
  · rw [if_neg h] at hhi hM
    by_cases h' : a1 < b1
    · subst hhi hM
      rw [aftR_nil (Int.le_refl _), aftR_one h' h1]
      obtain ⟨k, hk⟩ : ∃ k : Nat, (M - hi).toNat = k + 1 := ⟨(M - hi).toNat - 1, by omega⟩
      rw [hk, rf_all k fun i hi => tch_one (.inr ⟨by omega, by omega⟩)]
      show jn1 P (hi + 1, M) = _
      rw [show hi + 1 + (k : Int) = M by omega]
    · rw [aftR_nil (by omega), aftR_nil (by omega), show (M - hi).toNat = 0 by omega]
      rfl
/-- What Touched finds. -/
theorem touch_some {lo hi : Int} (hlo : lo = if a0 < b0 then b0 else a0) (hhi : hi = if b1 < a1 then b1 else a1) (h : lo ≤ hi) :
    (befR a0 a1 lo ++ befR b0 b1 lo ++ runTo D lo (hi + 1 - lo).toNat ++ aftR a0 a1 hi ++ aftR b0 b1 hi).foldl jn1 [] = tchL a0 a1 b0 b1 D := by
  have hl : a0 ≤ lo ∧ b0 ≤ lo := by rw [hlo]; split <;> omega
  have hh : hi ≤ a1 ∧ hi ≤ b1 := by rw [hhi]; split <;> omega
  unfold tchL
  generalize hm : (if b0 < a0 then b0 else a0) = m
  generalize hM : (if b1 < a1 then a1 else b1) = M
  have hml : m ≤ lo := by rw [hlo, ← hm]; split <;> split <;> omega
  have hMl : hi ≤ M := by rw [hhi, ← hM]; split <;> omega
  rw [List.append_assoc _ (aftR a0 a1 hi), List.foldl_append, fold_aft (D := D) _ hhi hM.symm (by omega) (by omega), List.foldl_append, fold_bef (D := D) hlo hm.symm (by omega) (by omega), fold_run, ← rf_nil]
  rw [rf_congr (P := rf [] (tch a0 a1 b0 b1 D) m (lo - m).toNat) (T := D) (T' := tch a0 a1 b0 b1 D) _ fun i hi' => (tch_both (by omega) (by omega)).symm]
  rw [show (M - m + 1).toNat = (lo - m).toNat + (hi + 1 - lo).toNat + (M - hi).toNat by omega, rf_add, rf_add, show m + ((lo - m).toNat : Int) = lo by omega, show m + (((lo - m).toNat + (hi + 1 - lo).toNat : Nat) : Int) = hi + 1 by omega]
/-- No tick in common. -/
theorem touch_none (ha : a0 ≤ a1) (h : a1 < b0) (hb : b0 ≤ b1) : [(a0, a1), (b0, b1)].foldl jn1 [] = tchL a0 a1 b0 b1 D := by
  unfold tchL
  rw [if_neg (by omega), if_neg (by omega), ← rf_nil]
  obtain ⟨k, hk⟩ : ∃ k : Nat, (k : Int) = a1 - a0 := ⟨(a1 - a0).toNat, by omega⟩
  obtain ⟨j, hj⟩ : ∃ j : Nat, (j : Int) = b1 - b0 := ⟨(b1 - b0).toNat, by omega⟩
  obtain ⟨g, hg⟩ : ∃ g : Nat, (g : Int) = b0 - a1 - 1 := ⟨(b0 - a1 - 1).toNat, by omega⟩
  rw [show (b1 - a0 + 1).toNat = (k + 1) + (g + (j + 1)) by omega, rf_add, rf_add, rf_all k fun i hi => tch_one (.inl ⟨by omega, by omega⟩), rf_none g fun i hi => tch_no (by omega) (by omega), rf_all j fun i hi => tch_one (.inr ⟨by omega, by omega⟩)]
  show jn1 [(a0, a1)] (b0, b1) = _
  rw [jn1_nil, show a0 + (k : Int) = a1 by omega, show a0 + ((k + 1 : Nat) : Int) + g = b0 by omega, show b0 + (j : Int) = b1 by omega]
/-- What the reference finds. -/
theorem touch_ref (ha : a0 ≤ a1) (h : a0 ≤ b0) (hb : b0 ≤ b1) {s : Int} (hs : s = if b0 < a1 + 1 then a1 + 1 else b0) :
    rf (runTo (tch a0 a1 b0 b1 D) a0 (a1 + 1 - a0).toNat) (fun _ => true) s (b1 + 1 - s).toNat = tchL a0 a1 b0 b1 D := by
  unfold tchL
  rw [if_neg (by omega), ← rf_nil, ← rf_nil]
  by_cases h1 : b1 < a1
  · rw [if_pos h1, show (b1 + 1 - s).toNat = 0 by rw [hs]; split <;> omega, show (a1 + 1 - a0).toNat = (a1 - a0 + 1).toNat by omega]
    rfl
  · rw [if_neg h1]
    have hs' : a1 + 1 ≤ s ∧ b0 ≤ s ∧ s ≤ b1 + 1 := by rw [hs]; split <;> omega
    obtain ⟨g, hg⟩ : ∃ g : Nat, (g : Int) = s - a1 - 1 := ⟨(s - a1 - 1).toNat, by omega⟩
    rw [show (b1 - a0 + 1).toNat = (a1 + 1 - a0).toNat + (g + (b1 + 1 - s).toNat) by omega, rf_add, rf_add, rf_none (P := rf [] (tch a0 a1 b0 b1 D) a0 (a1 + 1 - a0).toNat) g fun i hi => tch_no (by omega) (by rw [hs] at hg; split at hg <;> omega), show a0 + ((a1 + 1 - a0).toNat : Int) + g = s by omega]
    exact rf_congr _ fun i hi => (tch_one (.inr ⟨by omega, by omega⟩)).symm
end
/-- How many ranges there are at most. -/
theorem rf_len (P : List (Int × Int)) (T : Int → Bool) (a : Int) : ∀ k, (rf P T a k).length ≤ P.length + k
  | 0 => Nat.le_refl _
  | k + 1 => by
    have ih := rf_len P T a k
    unfold rf
    split
    · rcases List.eq_nil_or_concat (rf P T a k) with e | ⟨L, ⟨x, y⟩, e⟩
      · rw [e]; simp only [grow, List.getLast?_nil, List.length_singleton]; omega
      · rw [List.concat_eq_append] at e
        rw [e] at ih ⊢
        rw [List.length_append, List.length_singleton] at ih
        rw [grow_eq]
        by_cases hy : y = a + k - 1
        · rw [jn1_last _ _ _ _ hy, List.length_append, List.length_singleton]; omega
        · rw [jn1_new _ _ _ _ hy]; simp; omega
    · omega
/-- The first k ranges of a list joined. -/
def jnTo (L : List (Int × Int)) (k : Nat) : List (Int × Int) := (L.take k).foldl jn1 []
theorem jnTo_all (L : List (Int × Int)) : jnTo L L.length = L.foldl jn1 [] := by
  unfold jnTo
  rw [List.take_length]
theorem jnTo_succ (L : List (Int × Int)) (k : Nat) (h : k < L.length) : jnTo L (k + 1) = jn1 (jnTo L k) (rg_ L k) := by
  unfold jnTo rg_
  rw [List.take_add_one, List.foldl_append, List.getElem?_eq_getElem h, List.getD_eq_getElem?_getD, List.getElem?_eq_getElem h]
  rfl
theorem jnTo_len (L : List (Int × Int)) : ∀ k, k ≤ L.length → (jnTo L k).length ≤ k
  | 0, _ => by simp [jnTo]
  | k + 1, h => by
    have ih := jnTo_len L k (by omega)
    rw [jnTo_succ L k (by omega)]
    rcases List.eq_nil_or_concat (jnTo L k) with e | ⟨M, ⟨x, y⟩, e⟩
    · rw [e, jn1_nil]; simp
    · rw [List.concat_eq_append] at e
      rw [e] at ih ⊢
      rw [List.length_append, List.length_singleton] at ih
      by_cases hy : y = (rg_ L k).1 - 1
      · rw [jn1_last _ _ _ _ hy, List.length_append, List.length_singleton]; omega
      · rw [jn1_new _ _ _ _ hy]; simp; omega
theorem jn_cases (L : List (Int × Int)) (k : Nat) (h : k < L.length) :
    (jnTo L k = [] ∧ jnTo L (k + 1) = [] ++ [rg_ L k]) ∨ (∃ M a b, b = (rg_ L k).1 - 1 ∧ jnTo L k = M ++ [(a, b)] ∧ jnTo L (k + 1) = M ++ [(a, (rg_ L k).2)]) ∨
    (∃ M a b, b ≠ (rg_ L k).1 - 1 ∧ jnTo L k = M ++ [(a, b)] ∧ jnTo L (k + 1) = M ++ [(a, b)] ++ [rg_ L k]) := by
  rw [jnTo_succ L k h]
  rcases List.eq_nil_or_concat (jnTo L k) with e | ⟨M, ⟨x, y⟩, e⟩
  · exact .inl ⟨e, by rw [e]; rfl⟩
  · rw [List.concat_eq_append] at e
    by_cases hy : y = (rg_ L k).1 - 1
    · exact .inr (.inl ⟨M, x, y, hy, e, by rw [e, jn1_last _ _ _ _ hy]⟩)
    · exact .inr (.inr ⟨M, x, y, hy, e, by rw [e, jn1_new _ _ _ _ hy]⟩)
theorem jn_ne {L : List (Int × Int)} (h : L ≠ []) : L.foldl jn1 [] ≠ [] := by
  rw [← jnTo_all]
  obtain ⟨k, hk⟩ : ∃ k, L.length = k + 1 := ⟨L.length - 1, by have := List.length_pos_iff.2 h; omega⟩
  rw [hk]
  rcases jn_cases L k (by omega) with ⟨_, e⟩ | ⟨M, a, b, _, _, e⟩ | ⟨M, a, b, _, _, e⟩ <;> rw [e] <;> simp
end Go.Proofs.YthhhkjbhhjcjoaaGreatDoor
end

section
namespace Go.Proofs.YthhhkjbhhjcjoaaGreatDoor
open Go Go.RowKit Go.Ob Go.Ab
set_option maxRecDepth 100000
set_option maxHeartbeats 2000000
attribute [local irreducible] OQ OW AL AW AD AF SW

theorem rg_ld {m : Mem} {b : Nat} {blk : Blk} {L : List (Int × Int)} (hb : m.at b = some blk) (hc : blk.cells = flatR L) (k : Nat) (hk : k < L.length) : m.ld b (k * 2) 2 = some [.int .i64 (rg_ L k).1, .int .i64 (rg_ L k).2] := Go.Ls.flat_ld rgC 2 (fun _ => rfl) (0, 0) L hb hc k hk
theorem tk_snoc2 (L : List (Int × Int)) (a b c d : Int) : flatR (L ++ [(a, b)]) ++ [.int .i64 c, .int .i64 d] = (flatR L ++ [Value.int .i64 a, Value.int .i64 b]).take ((L.length + 1) * 2) ++ [.int .i64 c, .int .i64 d] := by
  rw [List.take_of_length_le (by simp [flatR_len]; omega), flatR_snoc]

theorem joined_c (L : List (Int × Int)) (z : Nat) (hl : L.length ≤ 5000) (hb : ∀ k, k < L.length → -1000000000000 ≤ (rg_ L k).1 ∧ (rg_ L k).1 ≤ 1000000000000) (c : Nat) :
    ACalls Tryz.prog 65 [.slice (some ⟨0, 0, none⟩) L.length c] [some ⟨flatR L, false, z⟩] (rgV 1 (jnTo L L.length)) [some ⟨flatR L, false, z⟩, rgB (jnTo L L.length)] := by
  have hlen := jnTo_len L
  have hrd : ∀ {m : Mem} {b : Nat} {blk : Blk} (hb : m.at b = some blk) (hc : blk.cells = flatR L) (k : Nat) (hk : k < L.length), m.ld b (k * 2) 2 = some [.int .i64 (rg_ L k).1, .int .i64 (rg_ L k).2] := fun hb hc k hk => rg_ld hb hc k hk
  refine ACalls.enter (t := [.slice (some ⟨0, 0, none⟩) L.length c, undef, undef, undef, undef, undef, undef, undef, undef, undef, undef, undef, undef, undef, undef, undef, undef, undef, undef, undef, undef, undef, undef, undef, undef, undef, undef, undef, undef, undef, undef, undef, undef, undef, undef, undef, undef, undef, undef, undef, undef, undef]) Tryz.func65 rfl rfl fun E hE => ?_
  repeat' (first
    | with_reducible refine Then.n ?_
    | with_reducible refine Then.r ?_
    | with_reducible refine Then.x ?_
    | with_reducible refine InB.n ?_
    | with_reducible refine InB.r ?_
    | with_reducible refine InB.hit ?_
    | with_reducible refine InB.miss (by decide) ?_
    | ((with_reducible refine AL.on ?_); first
      | ((first | ((with_reducible refine AL.k_move ?_); first | (refine AL.q rfl (OQ.move (by conv => lhs; whnf)) ?_)) | ((with_reducible refine AL.k_binOp ?_); first | refine AL.q rfl (OQ.lss rfl rfl) ?_ | refine AL.q rfl (OQ.subi rfl rfl (by omega)) ?_ | refine AL.q rfl (OQ.sub rfl rfl) ?_ | refine AL.q rfl (OQ.addi rfl rfl (by omega)) ?_ | refine AL.q rfl (OQ.add rfl rfl) ?_) | ((with_reducible refine AL.k_assign ?_); first | (refine AL.q rfl (OQ.assign (by conv => lhs; whnf)) ?_)) | ((with_reducible refine AL.k_load ?_); first | refine AL.q rfl (OQ.loadN (ty := 60) (n := 2) rfl (by kernel_rfl) (by kernel_rfl) (by first | (first | exact hrd rfl rfl _ (by omega) | exact get_last _ _ (flatR_len _)) | rfl)) ?_ | (refine AL.q rfl (OQ.load1 (ty := 3) rfl (by kernel_rfl) (by first | (first | exact hrd rfl rfl _ (by omega) | exact get_last _ _ (flatR_len _)) | (conv => lhs; whnf))) ?_)) | ((with_reducible refine AL.k_call ?_); first | refine AL.q rfl (OQ.lenS (xt := 55) (r := (none, 2, true)) rfl (by kernel_rfl)) ?_)); (conv => (arg 5; try tactic => exact nrm)))
      | ((first | ((with_reducible refine AL.k_fieldAddr ?_); first | refine AL.q rfl (OQ.fieldA (ty := 60) (i := 1) (n := 1) (off := 1) (g := false) rfl (by kernel_rfl) (by decide)) ?_) | ((with_reducible refine AL.k_indexAddr ?_); first | refine AL.q rfl (OQ.idxAddr (ty := 55) (z := 2) (g := true) rfl rfl (by kernel_rfl) (by omega) (by omega)) ?_)); (conv => (arg 5; try tactic => exact nrm)))
      | ((first | ((with_reducible refine AL.k_call ?_); first | refine AL.w rfl (by first | exact OW.appendNil (b := 3) (o := 0) (k := 1) (c := 1) (z := 2) (by' := 16) (zs := [.int .i64 0, .int .i64 0]) (e := 60) rfl rfl (by kernel_rfl) (by kernel_rfl) (by kernel_rfl) rfl (by kernel_rfl) (by decide) rfl (by decide) (by decide) | exact OW.append (n := M.length + 1) (b := 1) (bx := 3) (k := 1) (z := 2) (by' := 16) (zs := [.int .i64 0, .int .i64 0]) (e := 60) rfl rfl (by kernel_rfl) (by kernel_rfl) (by kernel_rfl) rfl (by kernel_rfl) (by decide) rfl rfl rfl (by decide) (le_snoc M _ _) rfl rfl (by omega) (by omega)) ?_) | ((with_reducible refine AL.k_store ?_); first | (refine AL.w rfl (OW.store (ty := 60) (n := 2) rfl (by conv => lhs; whnf) rfl rfl (by kernel_rfl) rfl rfl (by decide) rfl (by first | exact Nat.le_of_ble_eq_true rfl | (exact lt_snoc M _ _)) (by intro r h; cases h)) ?_) | (refine AL.w rfl (OW.store (ty := 3) (n := 1) rfl (by conv => lhs; whnf) rfl rfl (by kernel_rfl) rfl rfl (by decide) rfl (by first | exact Nat.le_of_ble_eq_true rfl | (exact lt_snoc M _ _)) (by intro r h; cases h)) ?_)) | ((with_reducible refine AL.k_alloc ?_); first | refine AL.w rfl (OW.alloc (ty := 60) (z := [.int .i64 0, .int .i64 0]) (by kernel_rfl) rfl) ?_) | ((with_reducible refine AL.k_buildSlice ?_); first | refine AL.w rfl (OW.buildSl (ty := 55) (zs := [.int .i64 0, .int .i64 0]) (n := 2) (g := true) (by kernel_rfl) (by kernel_rfl) rfl rfl rfl (by decide) (by decide) rfl rfl) ?_)); (conv => (arg 5; try tactic => exact nrm)); (conv => (arg 6; try tactic => exact nrm)))
      | refine AL.nil ?_)
    | ((with_reducible refine AW.on ?_); first
      | refine AW.seq ?_
      | refine AW.skip ?_
      | refine AW.exit ?_
      | refine AW.ret ?_
      | ((refine AW.block (id := 0) ?_); (refine AW.wk (t' := [junk, junk, junk, .slice none 0 0, junk, junk, junk, .slice (some ⟨0, 0, none⟩) L.length c, .int .i64 (L.length), .int .i64 (0), junk, junk, junk, junk, junk, junk, junk, junk, junk, junk, junk, junk, junk, junk, junk, junk, junk, junk, junk, junk, junk, junk, junk, junk, junk, junk, junk, junk, junk, junk, junk, junk]) (m' := [some ⟨flatR L, false, z⟩, none]) (Wk.keep 1 [1] (Nat.le_of_eq hE) rfl rfl (by repeat (first | exact RenT.nil | refine RenT.junk ?_ | refine RenT.val (by first | rfl | with_reducible assumption | (simp only [rn3, rn2, rn1, kσ]; done)) (by first | rfl | assumption | (simp [ok3, ok2, ok1]; done)) ?_)) ⟨⟨_, rfl, rfl, rfl, .inl ⟨rfl, flatR_scal L⟩⟩, trivial⟩) ?_); (refine AW.loop (fun n t' m => ∃ k : Nat, n = L.length - k ∧ k ≤ L.length ∧ t' = [junk, junk, junk, rgV 1 (jnTo L k), junk, junk, junk, .slice (some ⟨0, 0, none⟩) L.length c, .int .i64 (L.length), .int .i64 (k), junk, junk, junk, junk, junk, junk, junk, junk, junk, junk, junk, junk, junk, junk, junk, junk, junk, junk, junk, junk, junk, junk, junk, junk, junk, junk, junk, junk, junk, junk, junk, junk] ∧ m = [some ⟨flatR L, false, z⟩, rgB (jnTo L k)]) (L.length) (by exact ⟨0, rfl, Nat.zero_le _, rfl, rfl⟩) ?_); (rintro n t' m ⟨k, rfl, hk, rfl, rfl⟩))
      | refine AW.block ?_
      | (refine AW.draw (id := 6) 14 #[0, 1, 3, 7, 7, 23, 63, 127, 255, 7, 519, 1543, 4095, 8191] (by kernel_rfl) (by kernel_rfl) ?_; (conv => (arg 8; simp only [List.take_succ_cons, List.take_zero])))
      | (refine AW.region (id := 4) ?_; (have hkL : k < L.length := by omega); all_goals (have hbk := hb k hkL); all_goals (have hll := hlen k hk); all_goals (rcases jn_cases L k hkL with ⟨hL, hL'⟩ | ⟨M, a, b, hab, hL, hL'⟩ | ⟨M, a, b, hab, hL, hL'⟩); all_goals (rw [hL] at hll ⊢); all_goals (try simp only [List.length_append, List.length_cons, List.length_nil, Nat.zero_add] at hll); all_goals (first | rw [rgV_nil, rgB_nil] | rw [rgV_snoc, rgB_snoc]))
      | (refine AW.region (id := 10) ?_; (obtain rfl : k = L.length := by omega); all_goals (rcases List.eq_nil_or_concat (jnTo L L.length) with hL | ⟨M, r, hL⟩); all_goals ((try rw [List.concat_eq_append] at hL); rw [hL]); all_goals (first | rw [rgV_nil, rgB_nil] | rw [rgV_snoc, rgB_snoc]))
      | refine AW.region ?_
      | (refine AW.conds rfl (fun hc => ?_) (fun hc => ?_) <;> (try simp only [decide_eq_true_eq, decide_eq_false_iff_not, Bool.not_true, Bool.not_false, Bool.not_eq_true', Bool.not_eq_false', Int.not_lt, Int.not_le, Classical.not_not, ne_eq] at hc) <;> first | (exfalso; first | contradiction | (first | omega | (simp_all; done)); done) | skip))
    | ((with_reducible refine AD.on ?_); first
      | (refine AD.gskip rfl rfl rfl ?_; (conv => (arg 10; try tactic => exact nrm)))
      | ((first | refine AD.gn1 rfl rfl (by with_reducible rfl) rfl ?_ | refine AD.gn0 rfl rfl (by with_reducible rfl) rfl ?_); (conv => (arg 10; try tactic => exact nrm)))
      | ((first | ((with_reducible refine AD.k_move ?_); first | (refine AD.q rfl (OQ.move (by conv => lhs; whnf)) rfl rfl rfl ?_) | (refine AD.qc rfl rfl (by with_reducible rfl) (OQ.move (by conv => lhs; whnf)) rfl rfl rfl ?_)) | ((with_reducible refine AD.k_binOp ?_); first | refine AD.q rfl (OQ.gtr rfl rfl) rfl rfl rfl ?_ | refine AD.qc rfl rfl (by with_reducible rfl) (OQ.subi rfl rfl (by omega)) rfl rfl rfl ?_ | refine AD.qc rfl rfl (by with_reducible rfl) (OQ.sub rfl rfl) rfl rfl rfl ?_ | refine AD.qc rfl rfl (by with_reducible rfl) (OQ.eql rfl rfl) rfl rfl rfl ?_) | ((with_reducible refine AD.k_load ?_); first | (refine AD.qc rfl rfl (by with_reducible rfl) (OQ.load1 (ty := 3) rfl (by kernel_rfl) (by first | (first | exact hrd rfl rfl _ (by omega) | exact get_last _ _ (flatR_len _)) | (conv => lhs; whnf))) rfl rfl rfl ?_)) | ((with_reducible refine AD.k_pick ?_); first | (refine AD.q rfl (OQ.pickT rfl (by with_reducible rfl) (by conv => lhs; whnf)) rfl rfl rfl ?_) | (refine AD.q rfl (OQ.pickF rfl (by with_reducible rfl) (by conv => lhs; whnf)) rfl rfl rfl ?_))); (conv => (arg 10; try tactic => exact nrm)))
      | ((first | ((with_reducible refine AD.k_fieldAddr ?_); first | refine AD.qc rfl rfl (by with_reducible rfl) (OQ.fieldA (ty := 60) (i := 1) (n := 1) (off := 1) (g := false) rfl (by kernel_rfl) (by decide)) rfl rfl rfl ?_ | refine AD.qc rfl rfl (by with_reducible rfl) (OQ.fieldA (ty := 60) (i := 0) (n := 1) (off := 0) (g := false) rfl (by kernel_rfl) (by decide)) rfl rfl rfl ?_) | ((with_reducible refine AD.k_indexAddr ?_); first | refine AD.qc rfl rfl (by with_reducible rfl) (OQ.idxAddr (ty := 55) (z := 2) (g := true) rfl rfl (by kernel_rfl) (by omega) (by omega)) rfl rfl rfl ?_)); (conv => (arg 10; try tactic => exact nrm)))
      | (refine AD.bs rfl (fun hc => ?_) (fun hc => ?_) <;> (fail_if_success (with_reducible exact lit_no hc)) <;> (try simp only [decide_eq_true_eq, decide_eq_false_iff_not, Bool.not_true, Bool.not_false, Bool.not_eq_true', Bool.not_eq_false', Int.not_lt, Int.not_le, Classical.not_not, ne_eq] at hc) <;> first | (exfalso; first | contradiction | (first | omega | (simp_all; done)); done) | (conv => (arg 10; try tactic => exact nrm)))
      | (refine AD.gs1 rfl rfl (fun hc => ?_) (fun hc => ?_) <;> (fail_if_success (with_reducible exact lit_no hc)) <;> (try simp only [decide_eq_true_eq, decide_eq_false_iff_not, Bool.not_true, Bool.not_false, Bool.not_eq_true', Bool.not_eq_false', Int.not_lt, Int.not_le, Classical.not_not, ne_eq] at hc) <;> first | (exfalso; first | contradiction | (first | omega | (simp_all; done)); done) | (conv => (arg 10; try tactic => exact nrm)))
      | (refine AD.gs0 rfl rfl (fun hc => ?_) (fun hc => ?_) <;> (fail_if_success (with_reducible exact lit_no hc)) <;> (try simp only [decide_eq_true_eq, decide_eq_false_iff_not, Bool.not_true, Bool.not_false, Bool.not_eq_true', Bool.not_eq_false', Int.not_lt, Int.not_le, Classical.not_not, ne_eq] at hc) <;> first | (exfalso; first | contradiction | (first | omega | (simp_all; done)); done) | (conv => (arg 10; try tactic => exact nrm)))
      | (refine AD.nil ?_; (conv => (arg 4; simp only [List.drop_succ_cons, List.drop_zero, List.drop_nil])); (conv => (arg 5; try tactic => exact nrm)); (conv => (arg 6; try tactic => exact nrm))))
    | ((with_reducible refine ex_on ?_); first   | (refine ⟨L.length - (k + 1), [junk, junk, junk, .slice (some ⟨1, 0, none⟩) ([].length + 1 : Nat) INF, junk, junk, junk, .slice (some ⟨0, 0, none⟩) L.length c, .int .i64 (L.length), .int .i64 (k + 1), junk, junk, junk, junk, junk, junk, junk, junk, junk, junk, junk, junk, junk, junk, junk, junk, junk, junk, junk, junk, junk, junk, junk, junk, junk, junk, junk, junk, junk, junk, junk, junk], [some ⟨flatR L, false, z⟩, some ⟨flatR [] ++ [.int .i64 (rg_ L k).1, .int .i64 (rg_ L k).2], true, 2⟩], by omega, ?_, k + 1, rfl, by omega, by rw [hL', rgV_snoc]; rfl, by rw [hL', rgB_snoc]⟩; exact Wk.keep 1 [4] (Nat.le_of_eq hE) rfl rfl (by repeat (first | exact RenT.nil | refine RenT.junk ?_ | refine RenT.val (by first | rfl | with_reducible assumption | (simp only [rn3, rn2, rn1, kσ]; done)) (by first | rfl | assumption | (simp [ok3, ok2, ok1]; done)) ?_)) ⟨⟨_, rfl, rfl, rfl, .inl ⟨rfl, flatR_scal L⟩⟩, ⟨_, rfl, rfl, rfl, .inl ⟨rfl, rfl⟩⟩, trivial⟩)   | (refine ⟨L.length - (k + 1), [junk, junk, junk, .slice (some ⟨1, 0, none⟩) (M.length + 1) INF, junk, junk, junk, .slice (some ⟨0, 0, none⟩) L.length c, .int .i64 (L.length), .int .i64 (k + 1), junk, junk, junk, junk, junk, junk, junk, junk, junk, junk, junk, junk, junk, junk, junk, junk, junk, junk, junk, junk, junk, junk, junk, junk, junk, junk, junk, junk, junk, junk, junk, junk], [some ⟨flatR L, false, z⟩, some ⟨flatR M ++ [.int .i64 a, .int .i64 (rg_ L k).2], true, 2⟩], by omega, ?_, k + 1, rfl, by omega, by rw [hL', rgV_snoc]; rfl, by rw [hL', rgB_snoc]⟩; exact Wk.keep 1 [1] (Nat.le_of_eq hE) rfl rfl (by repeat (first | exact RenT.nil | refine RenT.junk ?_ | refine RenT.val (by first | rfl | with_reducible assumption | (simp only [rn3, rn2, rn1, kσ]; done)) (by first | rfl | assumption | (simp [ok3, ok2, ok1]; done)) ?_)) ⟨⟨_, rfl, rfl, rfl, .inl ⟨rfl, flatR_scal L⟩⟩, ⟨_, rfl, rfl, rfl, .inl ⟨(set_last _ _ _ (flatR_len M)).symm, sc_snoc M _ _⟩⟩, trivial⟩)   | (refine ⟨L.length - (k + 1), [junk, junk, junk, .slice (some ⟨1, 0, none⟩) (M.length + 1 + 1) INF, junk, junk, junk, .slice (some ⟨0, 0, none⟩) L.length c, .int .i64 (L.length), .int .i64 (k + 1), junk, junk, junk, junk, junk, junk, junk, junk, junk, junk, junk, junk, junk, junk, junk, junk, junk, junk, junk, junk, junk, junk, junk, junk, junk, junk, junk, junk, junk, junk, junk, junk], [some ⟨flatR L, false, z⟩, some ⟨flatR (M ++ [(a, b)]) ++ [.int .i64 (rg_ L k).1, .int .i64 (rg_ L k).2], true, 2⟩], by omega, ?_, k + 1, rfl, by omega, by rw [hL', rgV_snoc, List.length_append]; rfl, by rw [hL', rgB_snoc]⟩; exact Wk.keep 1 [4] (Nat.le_of_eq hE) rfl rfl (by repeat (first | exact RenT.nil | refine RenT.junk ?_ | refine RenT.val (by first | rfl | with_reducible assumption | (simp only [rn3, rn2, rn1, kσ]; done)) (by first | rfl | assumption | (simp [ok3, ok2, ok1]; done)) ?_)) ⟨⟨_, rfl, rfl, rfl, .inl ⟨rfl, flatR_scal L⟩⟩, ⟨_, rfl, rfl, rfl, .inl ⟨tk_snoc2 M _ _ _ _, sc_snoc _ _ _⟩⟩, trivial⟩))
    | ((with_reducible refine FinA.on ?_); first | (refine FinA.keep 1 [1] (.inl rfl) (.tmp (by conv => lhs; whnf) .nil) ?_ rfl (Nat.le_of_eq hE) rfl rfl ⟨⟨_, rfl, rfl, rfl, .inl ⟨rfl, flatR_scal L⟩⟩, trivial⟩; rfl) | (refine FinA.keep 1 [1] (.inl rfl) (.tmp (by conv => lhs; whnf) .nil) ?_ rfl (Nat.le_of_eq hE) rfl rfl ⟨⟨_, rfl, rfl, rfl, .inl ⟨rfl, flatR_scal L⟩⟩, ⟨_, rfl, rfl, rfl, .inl ⟨rfl, sc_snoc M _ _⟩⟩, trivial⟩; rfl)))
end Go.Proofs.YthhhkjbhhjcjoaaGreatDoor
end
