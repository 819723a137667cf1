/- Chapter 2: lists of ranges in the small memory; runs of numbers. -/
/- Chapter 2: lists of ranges in the small memory: one tick more, equality, how many ticks. -/
/- Chapter 2: lists of ranges in the small memory: equality, how many ticks. -/
import Derived.Test.YthhhkjbhhjcjoaaGreatDoor02Ob
import Derived.Test.YthhhkjbhhjcjoaaGreatDoor02D
import Derived.Test.YthhhkjbhhjcjoaaGreatDoorAbD
import Derived.Test.YthhhkjbhhjcjoaaGreatDoor02C
import Derived.Test.YthhhkjbhhjcjoaaGreatDoor02Bm
set_option linter.unusedSimpArgs false
set_option linter.unusedVariables false
section
namespace Go.Proofs.YthhhkjbhhjcjoaaGreatDoor
open Go Go.RowKit Go.Ob Go.Ab
set_option maxRecDepth 100000

theorem flatR_scal (l : List (Int × Int)) : (flatR l).all Ab.scal = true := List.all_eq_true.2 fun u hu => by
  obtain ⟨s, _, h⟩ := List.mem_flatMap.1 hu
  simp only [rgC, List.mem_cons, List.not_mem_nil, or_false] at h
  rcases h with rfl | rfl <;> rfl
theorem one_of_scal {cs : List Value} (h : cs.all Ab.scal = true) : cs.all Ab.one = true := List.all_eq_true.2 fun v hv => by
  have := List.all_eq_true.1 h v hv
  cases v <;> first | rfl | (simp [Ab.scal] at this)

/-- Ranges in a block b; none: nothing is there. -/
def rgV (b : Nat) (L : List (Int × Int)) : Value := if L = [] then .slice none 0 0 else .slice (some ⟨b, 0, none⟩) L.length INF
def rgB (L : List (Int × Int)) : Option Blk := if L = [] then none else some ⟨flatR L, true, 2⟩
theorem rgV_nil (b : Nat) : rgV b [] = .slice none 0 0 := rfl
theorem rgB_nil : rgB [] = none := rfl
theorem rgV_snoc (b : Nat) (L : List (Int × Int)) (r : Int × Int) : rgV b (L ++ [r]) = .slice (some ⟨b, 0, none⟩) (L.length + 1) INF := by unfold rgV; rw [if_neg (by simp)]; simp
theorem rgB_snoc (L : List (Int × Int)) (r : Int × Int) : rgB (L ++ [r]) = some ⟨flatR L ++ [.int .i64 r.1, .int .i64 r.2], true, 2⟩ := by unfold rgB; rw [if_neg (by simp), flatR_snoc]

theorem run_cases (is : Int → Bool) (lo : Int) (k : Nat) :
    (is (lo + k) = false ∧ runTo is lo k = [] ∧ runTo is lo (k + 1) = []) ∨ (∃ L r, is (lo + k) = false ∧ runTo is lo k = L ++ [r] ∧ runTo is lo (k + 1) = L ++ [r]) ∨
    (is (lo + k) = true ∧ runTo is lo k = [] ∧ runTo is lo (k + 1) = [] ++ [(lo + k, lo + k)]) ∨
    (∃ L a b, is (lo + k) = true ∧ b = lo + k - 1 ∧ runTo is lo k = L ++ [(a, b)] ∧ runTo is lo (k + 1) = L ++ [(a, lo + k)]) ∨
    (∃ L a b, is (lo + k) = true ∧ b ≠ lo + k - 1 ∧ runTo is lo k = L ++ [(a, b)] ∧ runTo is lo (k + 1) = L ++ [(a, b)] ++ [(lo + k, lo + k)]) := by
  have hcs := List.eq_nil_or_concat (runTo is lo k)
  cases h : is (lo + k) with
  | false =>
    rw [runTo_no h]
    rcases hcs with e | ⟨L, r, e⟩
    · exact .inl ⟨rfl, e, e⟩
    · rw [List.concat_eq_append] at e
      exact .inr (.inl ⟨L, r, rfl, e, e⟩)
  | true =>
    rw [runTo_yes h]
    rcases hcs with e | ⟨L, ⟨a, b⟩, e⟩
    · refine .inr (.inr (.inl ⟨rfl, e, ?_⟩))
      rw [e]
      rfl
    · rw [List.concat_eq_append] at e
      by_cases hb : b = lo + k - 1
      · exact .inr (.inr (.inr (.inl ⟨L, a, b, rfl, hb, e, by rw [e, grow_last _ _ _ _ hb]⟩)))
      · exact .inr (.inr (.inr (.inr ⟨L, a, b, rfl, hb, e, by rw [e, grow_new _ _ _ _ hb]⟩)))

theorem get_last {cs : List Value} {n : Nat} (a b : Value) (h : cs.length = n * 2) : (cs ++ [a, b])[(((n + 1 : Nat) : Int) - 1).toNat * 2 + 1]? = some b := by
  have : (((n + 1 : Nat) : Int) - 1).toNat = n := by omega
  rw [this, List.getElem?_append_right (by omega), h, show n * 2 + 1 - n * 2 = 1 by omega]
  rfl
theorem set_last {cs : List Value} {n : Nat} (a b c : Value) (h : cs.length = n * 2) : (cs ++ [a, b]).set ((((n + 1 : Nat) : Int) - 1).toNat * 2 + 1) c = cs ++ [a, c] := by
  have : (((n + 1 : Nat) : Int) - 1).toNat = n := by omega
  rw [this, List.set_append_right _ _ (by omega), h, show n * 2 + 1 - n * 2 = 1 by omega]
  rfl

theorem sc_snoc (L : List (Int × Int)) (a b : Int) : (flatR L ++ [Value.int .i64 a, Value.int .i64 b]).all Ab.scal = true := by
  rw [List.all_append, flatR_scal]
  rfl
theorem tk_snoc (L : List (Int × Int)) (a b c : Int) : flatR (L ++ [(a, b)]) ++ [.int .i64 c, .int .i64 c] = (flatR L ++ [Value.int .i64 a, Value.int .i64 b]).take ((L.length + 1) * 2) ++ [.int .i64 c, .int .i64 c] := by
  rw [List.take_of_length_le (by simp [flatR_len]; omega), flatR_snoc]
theorem lt_snoc (L : List (Int × Int)) (a b : Value) : ((((L.length + 1 : Nat) : Int) - 1).toNat * 2 + 1) + 1 ≤ (flatR L ++ [a, b]).length := by
  simp [flatR_len]
theorem le_snoc (L : List (Int × Int)) (a b : Value) : (L.length + 1) * 2 ≤ (flatR L ++ [a, b]).length := by
  simp [flatR_len]
  omega

attribute [local irreducible] OQ OW AL AW AD AF SW
set_option maxHeartbeats 1000000 in
/-- The runs of numbers of which a function says yes, that reads four blocks. -/
theorem runs_4 (f : FuncId) (he : enters Tryz.prog f = true) (cs : List Value) (is : Int → Bool) (lo hi : Int) (N : Nat) (B0 B1 B2 B3 : Blk) (hlo : -1000000000000 ≤ lo) (hhi : hi ≤ 1000000000000) (hN : (N : Int) = hi + 1 - lo) (hN2 : N ≤ 100000)
    (h0 : ∀ js, B0.cells.map (rn1 (kσ 4 js)) = B0.cells ∧ B0.cells.all (ok1 5) = true) (h1 : ∀ js, B1.cells.map (rn1 (kσ 4 js)) = B1.cells ∧ B1.cells.all (ok1 5) = true)
    (h2 : ∀ js, B2.cells.map (rn1 (kσ 4 js)) = B2.cells ∧ B2.cells.all (ok1 5) = true) (h3 : ∀ js, B3.cells.map (rn1 (kσ 4 js)) = B3.cells ∧ B3.cells.all (ok1 5) = true)
    (hcs : ∀ js, rn3 (kσ 4 js) (.func (.func f) #[] cs.toArray) = .func (.func f) #[] cs.toArray) (hck : ok3 5 (.func (.func f) #[] cs.toArray) = true)
    (H : ∀ k : Nat, k < N → ∀ rest : Mem, PCalls Tryz.prog f (.int .i64 (lo + k) :: cs) (some B0 :: some B1 :: some B2 :: some B3 :: rest) (.bool (is (lo + k)))) :
    ACalls Tryz.prog 67 [.int .i64 lo, .int .i64 hi, .func (.func f) #[] cs.toArray] [some B0, some B1, some B2, some B3] (rgV 4 (runTo is lo N)) [some B0, some B1, some B2, some B3, rgB (runTo is lo N)] := by
  have hlen := runTo_len is lo
  have hcs4 := hcs [4]
  have hcs6 := hcs [6]
  refine ACalls.enter (t := [.int .i64 lo, .int .i64 hi, .func (.func f) #[] cs.toArray, undef, undef, undef, undef, undef, undef, undef, undef, undef, undef, undef, undef, undef, undef, undef, undef, undef, undef, undef, undef, undef, undef, undef, undef, undef, undef, undef, undef, undef, undef, undef, undef, undef, undef, undef, undef, undef, undef, undef, undef, undef, undef, undef, undef, undef, undef, undef]) Tryz.func67 rfl rfl fun E hE => ?_
  repeat' (first
    | with_reducible refine Then.n ?_
    | with_reducible refine Then.r ?_
    | with_reducible refine Then.x ?_
    | with_reducible refine InB.n ?_
    | with_reducible refine InB.r ?_
    | with_reducible refine InB.hit ?_
    | with_reducible refine InB.miss (by decide) ?_
    | ((with_reducible refine AL.on ?_); first
      | (refine AL.gd rfl ?_; first | (refine AL.gskip rfl rfl ?_; (conv => (arg 5; try tactic => exact nrm))) | (refine AL.gs1 rfl rfl (fun hc => ?_) (fun hc => ?_) <;> (try simp only [decide_eq_true_eq, decide_eq_false_iff_not, Bool.not_true, Bool.not_false, Bool.not_eq_true', Bool.not_eq_false', Int.not_lt, Int.not_le, Classical.not_not, ne_eq] at hc) <;> first | (exfalso; first | contradiction | (first | omega | (simp_all; done)); done) | (conv => (arg 5; try tactic => exact nrm))) | (refine AL.gs0 rfl rfl (fun hc => ?_) (fun hc => ?_) <;> (try simp only [decide_eq_true_eq, decide_eq_false_iff_not, Bool.not_true, Bool.not_false, Bool.not_eq_true', Bool.not_eq_false', Int.not_lt, Int.not_le, Classical.not_not, ne_eq] at hc) <;> first | (exfalso; first | contradiction | (first | omega | (simp_all; done)); done) | (conv => (arg 5; try tactic => exact nrm))))
      | ((first | ((with_reducible refine AL.k_move ?_); first | (refine AL.q rfl (OQ.move (by conv => lhs; whnf)) ?_)) | ((with_reducible refine AL.k_assign ?_); first | (refine AL.q rfl (OQ.assign (by conv => lhs; whnf)) ?_)) | ((with_reducible refine AL.k_binOp ?_); first | refine AL.q rfl (OQ.leq rfl rfl) ?_ | refine AL.q rfl (OQ.gtr rfl rfl) ?_ | refine AL.q rfl (OQ.subi rfl rfl (by omega)) ?_ | refine AL.q rfl (OQ.sub rfl rfl) ?_ | refine AL.q rfl (OQ.eql rfl rfl) ?_ | refine AL.q rfl (OQ.addi rfl rfl (by omega)) ?_ | refine AL.q rfl (OQ.add rfl rfl) ?_) | ((with_reducible refine AL.k_call ?_); first | refine AL.q rfl (OQ.lenS (xt := 55) (r := (none, 2, true)) rfl (by kernel_rfl)) ?_) | ((with_reducible refine AL.k_unOp ?_); first | refine AL.q rfl (OQ.not rfl) ?_) | ((with_reducible refine AL.k_load ?_); first | (refine AL.q rfl (OQ.load1 (ty := 3) rfl (by kernel_rfl) (by first | (exact get_last _ _ (flatR_len _)) | (conv => lhs; whnf))) ?_)) | ((with_reducible refine AL.k_pick ?_); first | (refine AL.q rfl (OQ.pickT rfl (by with_reducible rfl) (by conv => lhs; whnf)) ?_) | (refine AL.q rfl (OQ.pickF rfl (by with_reducible rfl) (by conv => lhs; whnf)) ?_))); (conv => (arg 5; try tactic => exact nrm)))
      | ((first | ((with_reducible refine AL.k_call ?_); first | refine AL.pcall rfl (by first | assumption | kernel_rfl) rfl (HK _) ?_) | ((with_reducible refine AL.k_indexAddr ?_); first | refine AL.q rfl (OQ.idxAddr (ty := 55) (z := 2) (g := true) rfl rfl (by kernel_rfl) (by omega) (by omega)) ?_) | ((with_reducible refine AL.k_fieldAddr ?_); first | refine AL.q rfl (OQ.fieldA (ty := 60) (i := 1) (n := 1) (off := 1) (g := false) rfl (by kernel_rfl) (by decide)) ?_) | ((with_reducible refine AL.k_build ?_); first | refine AL.q rfl (OQ.buildS (ty := 60) (zs := [.int .i64 0, .int .i64 0]) (pls := [(0, 1), (1, 1)]) (by kernel_rfl) rfl (by kernel_rfl) rfl rfl rfl) ?_)); (conv => (arg 5; try tactic => exact nrm)))
      | ((first | ((with_reducible refine AL.k_call ?_); first | refine AL.w rfl (by first | exact OW.appendNil (b := 5) (o := 0) (k := 1) (c := 1) (z := 2) (by' := 16) (zs := [.int .i64 0, .int .i64 0]) (e := 60) rfl rfl (by kernel_rfl) (by kernel_rfl) (by kernel_rfl) rfl (by kernel_rfl) (by decide) rfl (by decide) (by decide) | exact OW.append (n := L.length + 1) (b := 4) (bx := 5) (k := 1) (z := 2) (by' := 16) (zs := [.int .i64 0, .int .i64 0]) (e := 60) rfl rfl (by kernel_rfl) (by kernel_rfl) (by kernel_rfl) rfl (by kernel_rfl) (by decide) rfl rfl rfl (by decide) (le_snoc L _ _) rfl rfl (by omega) (by omega)) ?_) | ((with_reducible refine AL.k_store ?_); first | (refine AL.w rfl (OW.store (ty := 3) (n := 1) rfl (by conv => lhs; whnf) rfl rfl (by kernel_rfl) rfl rfl (by decide) rfl (by first | exact Nat.le_of_ble_eq_true rfl | (exact lt_snoc L _ _)) (by intro r h; cases h)) ?_)) | ((with_reducible refine AL.k_buildSlice ?_); first | refine AL.w rfl (OW.buildSl (ty := 55) (zs := [.int .i64 0, .int .i64 0]) (n := 2) (g := true) (by kernel_rfl) (by kernel_rfl) rfl rfl rfl (by decide) (by decide) rfl rfl) ?_)); (conv => (arg 5; try tactic => exact nrm)); (conv => (arg 6; try tactic => exact nrm)))
      | (refine AL.bs rfl (fun hc => ?_) (fun hc => ?_) <;> (fail_if_success (with_reducible exact lit_no hc)) <;> (try simp only [decide_eq_true_eq, decide_eq_false_iff_not, Bool.not_true, Bool.not_false, Bool.not_eq_true', Bool.not_eq_false', Int.not_lt, Int.not_le, Classical.not_not, ne_eq] at hc) <;> first | (exfalso; first | contradiction | (first | omega | (simp_all; done)); done) | (conv => (arg 5; try tactic => exact nrm)))
      | refine AL.nil ?_)
    | ((with_reducible refine AW.on ?_); first
      | refine AW.seq ?_
      | refine AW.skip ?_
      | refine AW.exit ?_
      | refine AW.ret ?_
      | ((refine AW.block (id := 0) ?_); (refine AW.wk (t' := [.int .i64 lo, .int .i64 hi, .func (.func f) #[] cs.toArray, junk, junk, junk, junk, .slice none 0 0, .int .i64 lo, junk, junk, junk, junk, junk, junk, junk, junk, junk, junk, junk, junk, junk, junk, junk, junk, junk, junk, junk, junk, junk, junk, junk, junk, junk, junk, junk, junk, junk, junk, junk, junk, junk, junk, junk, junk, junk, junk, junk, junk, junk]) (m' := [some B0, some B1, some B2, some B3, none]) (Wk.keep 4 [4] (Nat.le_of_eq hE) rfl rfl (by repeat (first | exact RenT.nil | refine RenT.junk ?_ | refine RenT.val (by first | rfl | with_reducible assumption | (simp only [rn3, rn2, rn1, kσ]; done)) (by first | rfl | assumption | (simp [ok3, ok2, ok1]; done)) ?_)) ⟨⟨_, rfl, rfl, rfl, .inr (h0 _)⟩, ⟨_, rfl, rfl, rfl, .inr (h1 _)⟩, ⟨_, rfl, rfl, rfl, .inr (h2 _)⟩, ⟨_, rfl, rfl, rfl, .inr (h3 _)⟩, trivial⟩) ?_); (refine AW.loop (fun n t' m => ∃ k : Nat, n = N - k ∧ k ≤ N ∧ t' = [.int .i64 lo, .int .i64 hi, .func (.func f) #[] cs.toArray, junk, junk, junk, junk, rgV 4 (runTo is lo k), .int .i64 (lo + k), junk, junk, junk, junk, junk, junk, junk, junk, junk, junk, junk, junk, junk, junk, junk, junk, junk, junk, junk, junk, junk, junk, junk, junk, junk, junk, junk, junk, junk, junk, junk, junk, junk, junk, junk, junk, junk, junk, junk, junk, junk] ∧ m = [some B0, some B1, some B2, some B3, rgB (runTo is lo k)]) (N) (by exact ⟨0, rfl, Nat.zero_le _, by simp [runTo, rgV_nil], rfl⟩) ?_); (rintro n t' m ⟨k, rfl, hk, rfl, rfl⟩))
      | refine AW.block ?_
      | (refine AW.region (id := 6) ?_; (rcases run_cases is lo k with ⟨hi_, hL, hL'⟩ | ⟨L, r, hi_, hL, hL'⟩ | ⟨hi_, hL, hL'⟩ | ⟨L, a, b, hi_, hb, hL, hL'⟩ | ⟨L, a, b, hi_, hb, hL, hL'⟩); all_goals (have hkN : k < N := by omega); all_goals (have HK := H k hkN); all_goals (rw [hi_] at HK); all_goals (have hll := hlen k); all_goals (rw [hL] at hll ⊢); all_goals (try simp only [List.length_append, List.length_cons, List.length_nil, Nat.zero_add] at hll); all_goals (first | rw [rgV_nil, rgB_nil] | rw [rgV_snoc, rgB_snoc]))
      | (refine AW.region (id := 9) ?_; (obtain rfl : k = N := by omega); all_goals (rcases List.eq_nil_or_concat (runTo is lo k) with hL | ⟨L, r, hL⟩); all_goals ((try rw [List.concat_eq_append] at hL); rw [hL]); all_goals (first | rw [rgV_nil, rgB_nil] | rw [rgV_snoc, rgB_snoc]))
      | refine AW.region ?_
      | (refine AW.conds rfl (fun hc => ?_) (fun hc => ?_) <;> (try simp only [decide_eq_true_eq, decide_eq_false_iff_not, Bool.not_true, Bool.not_false, Bool.not_eq_true', Bool.not_eq_false', Int.not_lt, Int.not_le, Classical.not_not, ne_eq] at hc) <;> first | (exfalso; first | contradiction | (first | omega | (simp_all; done)); done) | skip))
    | ((with_reducible refine ex_on ?_); first   | (refine ⟨N - (k + 1), [.int .i64 lo, .int .i64 hi, .func (.func f) #[] cs.toArray, junk, junk, junk, junk, .slice none 0 0, .int .i64 (lo + k + 1), junk, junk, junk, junk, junk, junk, junk, junk, junk, junk, junk, junk, junk, junk, junk, junk, junk, junk, junk, junk, junk, junk, junk, junk, junk, junk, junk, junk, junk, junk, junk, junk, junk, junk, junk, junk, junk, junk, junk, junk, junk], [some B0, some B1, some B2, some B3, none], by omega, ?_, k + 1, rfl, by omega, by rw [hL', rgV_nil, show lo + ((k + 1 : Nat) : Int) = lo + k + 1 by omega], by rw [hL', rgB_nil]⟩; exact Wk.keep 4 [4] (Nat.le_of_eq hE) rfl rfl (by repeat (first | exact RenT.nil | refine RenT.junk ?_ | refine RenT.val (by first | rfl | with_reducible assumption | (simp only [rn3, rn2, rn1, kσ]; done)) (by first | rfl | assumption | (simp [ok3, ok2, ok1]; done)) ?_)) ⟨⟨_, rfl, rfl, rfl, .inr (h0 _)⟩, ⟨_, rfl, rfl, rfl, .inr (h1 _)⟩, ⟨_, rfl, rfl, rfl, .inr (h2 _)⟩, ⟨_, rfl, rfl, rfl, .inr (h3 _)⟩, trivial⟩)   | (refine ⟨N - (k + 1), [.int .i64 lo, .int .i64 hi, .func (.func f) #[] cs.toArray, junk, junk, junk, junk, .slice (some ⟨4, 0, none⟩) (L.length + 1) INF, .int .i64 (lo + k + 1), junk, junk, junk, junk, junk, junk, junk, junk, junk, junk, junk, junk, junk, junk, junk, junk, junk, junk, junk, junk, junk, junk, junk, junk, junk, junk, junk, junk, junk, junk, junk, junk, junk, junk, junk, junk, junk, junk, junk, junk, junk], [some B0, some B1, some B2, some B3, some ⟨flatR L ++ [.int .i64 r.1, .int .i64 r.2], true, 2⟩], by omega, ?_, k + 1, rfl, by omega, by rw [hL', rgV_snoc, show lo + ((k + 1 : Nat) : Int) = lo + k + 1 by omega], by rw [hL', rgB_snoc]⟩; exact Wk.keep 4 [4] (Nat.le_of_eq hE) rfl rfl (by repeat (first | exact RenT.nil | refine RenT.junk ?_ | refine RenT.val (by first | rfl | with_reducible assumption | (simp only [rn3, rn2, rn1, kσ]; done)) (by first | rfl | assumption | (simp [ok3, ok2, ok1]; done)) ?_)) ⟨⟨_, rfl, rfl, rfl, .inr (h0 _)⟩, ⟨_, rfl, rfl, rfl, .inr (h1 _)⟩, ⟨_, rfl, rfl, rfl, .inr (h2 _)⟩, ⟨_, rfl, rfl, rfl, .inr (h3 _)⟩, ⟨_, rfl, rfl, rfl, .inl ⟨rfl, sc_snoc L _ _⟩⟩, trivial⟩)   | (refine ⟨N - (k + 1), [.int .i64 lo, .int .i64 hi, .func (.func f) #[] cs.toArray, junk, junk, junk, junk, .slice (some ⟨4, 0, none⟩) ([].length + 1 : Nat) INF, .int .i64 (lo + k + 1), junk, junk, junk, junk, junk, junk, junk, junk, junk, junk, junk, junk, junk, junk, junk, junk, junk, junk, junk, junk, junk, junk, junk, junk, junk, junk, junk, junk, junk, junk, junk, junk, junk, junk, junk, junk, junk, junk, junk, junk, junk], [some B0, some B1, some B2, some B3, some ⟨flatR [] ++ [.int .i64 (lo + k), .int .i64 (lo + k)], true, 2⟩], by omega, ?_, k + 1, rfl, by omega, by rw [hL', rgV_snoc, show lo + ((k + 1 : Nat) : Int) = lo + k + 1 by omega], by rw [hL', rgB_snoc]⟩; exact Wk.keep 4 [6] (Nat.le_of_eq hE) rfl rfl (by repeat (first | exact RenT.nil | refine RenT.junk ?_ | refine RenT.val (by first | rfl | with_reducible assumption | (simp only [rn3, rn2, rn1, kσ]; done)) (by first | rfl | assumption | (simp [ok3, ok2, ok1]; done)) ?_)) ⟨⟨_, rfl, rfl, rfl, .inr (h0 _)⟩, ⟨_, rfl, rfl, rfl, .inr (h1 _)⟩, ⟨_, rfl, rfl, rfl, .inr (h2 _)⟩, ⟨_, rfl, rfl, rfl, .inr (h3 _)⟩, ⟨_, rfl, rfl, rfl, .inl ⟨rfl, rfl⟩⟩, trivial⟩)   | (refine ⟨N - (k + 1), [.int .i64 lo, .int .i64 hi, .func (.func f) #[] cs.toArray, junk, junk, junk, junk, .slice (some ⟨4, 0, none⟩) (L.length + 1) INF, .int .i64 (lo + k + 1), junk, junk, junk, junk, junk, junk, junk, junk, junk, junk, junk, junk, junk, junk, junk, junk, junk, junk, junk, junk, junk, junk, junk, junk, junk, junk, junk, junk, junk, junk, junk, junk, junk, junk, junk, junk, junk, junk, junk, junk, junk], [some B0, some B1, some B2, some B3, some ⟨flatR L ++ [.int .i64 a, .int .i64 (lo + k)], true, 2⟩], by omega, ?_, k + 1, rfl, by omega, by rw [hL', rgV_snoc, show lo + ((k + 1 : Nat) : Int) = lo + k + 1 by omega], by rw [hL', rgB_snoc]⟩; exact Wk.keep 4 [4] (Nat.le_of_eq hE) rfl rfl (by repeat (first | exact RenT.nil | refine RenT.junk ?_ | refine RenT.val (by first | rfl | with_reducible assumption | (simp only [rn3, rn2, rn1, kσ]; done)) (by first | rfl | assumption | (simp [ok3, ok2, ok1]; done)) ?_)) ⟨⟨_, rfl, rfl, rfl, .inr (h0 _)⟩, ⟨_, rfl, rfl, rfl, .inr (h1 _)⟩, ⟨_, rfl, rfl, rfl, .inr (h2 _)⟩, ⟨_, rfl, rfl, rfl, .inr (h3 _)⟩, ⟨_, rfl, rfl, rfl, .inl ⟨(set_last _ _ _ (flatR_len L)).symm, sc_snoc L _ _⟩⟩, trivial⟩)   | (refine ⟨N - (k + 1), [.int .i64 lo, .int .i64 hi, .func (.func f) #[] cs.toArray, junk, junk, junk, junk, .slice (some ⟨4, 0, none⟩) (L.length + 1 + 1) INF, .int .i64 (lo + k + 1), junk, junk, junk, junk, junk, junk, junk, junk, junk, junk, junk, junk, junk, junk, junk, junk, junk, junk, junk, junk, junk, junk, junk, junk, junk, junk, junk, junk, junk, junk, junk, junk, junk, junk, junk, junk, junk, junk, junk, junk, junk], [some B0, some B1, some B2, some B3, some ⟨flatR (L ++ [(a, b)]) ++ [.int .i64 (lo + k), .int .i64 (lo + k)], true, 2⟩], by omega, ?_, k + 1, rfl, by omega, by rw [hL', rgV_snoc, List.length_append, show lo + ((k + 1 : Nat) : Int) = lo + k + 1 by omega]; rfl, by rw [hL', rgB_snoc]⟩; exact Wk.keep 4 [6] (Nat.le_of_eq hE) rfl rfl (by repeat (first | exact RenT.nil | refine RenT.junk ?_ | refine RenT.val (by first | rfl | with_reducible assumption | (simp only [rn3, rn2, rn1, kσ]; done)) (by first | rfl | assumption | (simp [ok3, ok2, ok1]; done)) ?_)) ⟨⟨_, rfl, rfl, rfl, .inr (h0 _)⟩, ⟨_, rfl, rfl, rfl, .inr (h1 _)⟩, ⟨_, rfl, rfl, rfl, .inr (h2 _)⟩, ⟨_, rfl, rfl, rfl, .inr (h3 _)⟩, ⟨_, rfl, rfl, rfl, .inl ⟨tk_snoc L _ _ _, sc_snoc _ _ _⟩⟩, trivial⟩))
    | ((with_reducible refine FinA.on ?_); first | (refine FinA.keep 4 [4] (.inl rfl) (.tmp (by conv => lhs; whnf) .nil) ?_ rfl (Nat.le_of_eq hE) rfl rfl ⟨⟨_, rfl, rfl, rfl, .inr (h0 _)⟩, ⟨_, rfl, rfl, rfl, .inr (h1 _)⟩, ⟨_, rfl, rfl, rfl, .inr (h2 _)⟩, ⟨_, rfl, rfl, rfl, .inr (h3 _)⟩, trivial⟩; rfl) | (refine FinA.keep 4 [4] (.inl rfl) (.tmp (by conv => lhs; whnf) .nil) ?_ rfl (Nat.le_of_eq hE) rfl rfl ⟨⟨_, rfl, rfl, rfl, .inr (h0 _)⟩, ⟨_, rfl, rfl, rfl, .inr (h1 _)⟩, ⟨_, rfl, rfl, rfl, .inr (h2 _)⟩, ⟨_, rfl, rfl, rfl, .inr (h3 _)⟩, ⟨_, rfl, rfl, rfl, .inl ⟨rfl, sc_snoc L _ _⟩⟩, trivial⟩; rfl)))
end Go.Proofs.YthhhkjbhhjcjoaaGreatDoor
end

section
section
namespace Go.Proofs.YthhhkjbhhjcjoaaGreatDoor
open Go Go.RowKit Go.Ob Go.Ab
set_option maxRecDepth 100000
set_option maxHeartbeats 1000000
attribute [local irreducible] OQ OW AL AW AD AF SW

theorem rgV_rn (σ : Nat → Nat) (b : Nat) (L : List (Int × Int)) : rn3 σ (rgV b L) = rgV (σ b) L := by
  unfold rgV
  split <;> rfl
theorem rgV_ok {n b : Nat} (L : List (Int × Int)) (h : b < n) : ok3 n (rgV b L) = true := by
  unfold rgV
  split
  · rfl
  · simp [ok3, ok2, ok1, h]
theorem rgV_rn2 (σ : Nat → Nat) (b : Nat) (L : List (Int × Int)) : rn2 σ (rgV b L) = rgV (σ b) L := by
  unfold rgV
  split <;> rfl
theorem rgV_ok2 {n b : Nat} (L : List (Int × Int)) (h : b < n) : ok2 n (rgV b L) = true := by
  unfold rgV
  split
  · rfl
  · simp [ok2, ok1, h]
theorem rgB_spec {L : List (Int × Int)} {b : Blk} (h : rgB L = some b) : L ≠ [] ∧ b = ⟨flatR L, true, 2⟩ := by
  unfold rgB at h
  split at h
  · cases h
  · rename_i hl
    cases h
    exact ⟨hl, rfl⟩
theorem rgB_scal (L : List (Int × Int)) : ∀ b, rgB L = some b → b.own = true ∧ b.cells.all Ab.scal = true := fun b h => by
  obtain ⟨_, rfl⟩ := rgB_spec h
  exact ⟨rfl, flatR_scal L⟩

theorem tk_all {cs : List Value} {n : Nat} (h : cs.length = n) : cs.take n = cs := List.take_of_length_le (by omega)
theorem here1 {b : Blk} : ∀ x, x < List.length [some b] → ∃ blk, Mem.at [some b] x = some blk := fun x hx => by
  simp at hx
  subst hx
  exact ⟨_, rfl⟩

end Go.Proofs.YthhhkjbhhjcjoaaGreatDoor
end

section
namespace Go.Proofs.YthhhkjbhhjcjoaaGreatDoor
open Go Go.RowKit Go.Ob Go.Ab
set_option maxRecDepth 100000
set_option maxHeartbeats 1000000

theorem rg_real {ρ : Ren} {m : Mem} {w : World} {b : Nat} {L : List (Int × Int)} {v' : Value} (hb : m.at b = rgB L) (hm : MRel ρ m w) (hv : VRel ρ (rgV b L) v') :
    ∃ a cap, v' = .slice a L.length cap ∧ SlRgs w a L := by
  by_cases hL : L = []
  · subst hL
    exact ⟨none, 0, hv.nil_inv, ⟨fun h => absurd rfl h⟩⟩
  · unfold rgV at hv
    rw [if_neg hL] at hv
    have hb' : m.at b = some ⟨flatR L, true, 2⟩ := by rw [hb]; exact if_neg hL
    have hp : 0 < L.length := List.length_pos_iff.2 hL
    rcases hv.slice_inv with ⟨pl, c', hp', g1, _, _, rfl⟩ | ⟨h0, _⟩
    case inr => omega
    refine ⟨_, c', rfl, ⟨fun _ => ?_⟩⟩
    obtain ⟨pl', hp2, ⟨c, ty, fr, k0, _, k2, k3⟩, _⟩ := hm b _ hb'
    cases Option.some.inj (hp'.symm.trans hp2)
    obtain ⟨_, _, rfl⟩ := k3 rfl
    refine ⟨pl.blk, 0 + pl.sh, rfl, (Array.getElem?_eq_some_iff.1 k0).1, fun k hk => ?_⟩
    have g : ∀ j, j < 2 → w.cell? ⟨pl.blk, 0 + pl.sh + (k * 2 + j), none⟩ = (rgC (rg_ L k))[j]? := fun j hj => by
      have hg := flatR_get L k j hj hk
      have hl : j < (rgC (rg_ L k)).length := hj
      rw [List.getElem?_eq_getElem hl] at hg ⊢
      obtain ⟨v', q1, q2⟩ := k2 _ _ hg
      have hsc := List.all_eq_true.1 (flatR_scal L) _ (List.mem_of_getElem? hg)
      rw [q2.of_scal hsc] at q1
      rw [Free.cell_of_blk k0, ← q1]
      congr 1
      omega
    exact ⟨g 0 (by omega), by rw [Nat.add_assoc]; exact g 1 (by omega)⟩

theorem Ranges_q {m : Mem} {b c : Nat} {L M : List (Int × Int)} (hb : m.at b = rgB L) (hc : m.at c = rgB M) (hl : L.length ≤ 100000) (hl' : M.length ≤ 100000) :
    PCalls Tryz.prog 25 [rgV b L, rgV c M] m (.bool (decide (L = M))) := by
  intro ρ args' w hdom hargs hm
  obtain ⟨xs', e, h1, hg⟩ := hargs.tuple_inv
  cases e
  obtain ⟨u, e0, r0⟩ := hg 0 _ rfl
  obtain ⟨v, e1, r1⟩ := hg 1 _ rfl
  obtain ⟨a, cap, rfl, hA⟩ := rg_real hb hm r0
  obtain ⟨a', cap', rfl, hA'⟩ := rg_real hc hm r1
  have : args' = #[.slice a L.length cap, .slice a' M.length cap'] := by
    refine Array.ext_getElem? fun i => ?_
    match i with
    | 0 => exact e0
    | 1 => exact e1
    | i + 2 => rw [Array.getElem?_eq_none (by simp at h1; omega), Array.getElem?_eq_none (by simp)]
  subst this
  exact (Ranges_any a a' cap cap' L M w hA hA' hl hl').mono fun e w' ⟨he, hbl⟩ => ⟨_, he, .scal rfl, hbl⟩

section
attribute [local irreducible] OQ OW AL AW AD AF SW
end
end Go.Proofs.YthhhkjbhhjcjoaaGreatDoor
end
end
