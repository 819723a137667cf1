/- OrbitWidens: its main walk. -/
import Derived.Test.Ytaoennekamlfeaa02Br2
import Derived.Test.Ytaoennekamlfeaa02Y
import Derived.Test.Ytaoennekamlfeaa02Eq
import Derived.Test.Ytaoennekamlfeaa02Z
set_option linter.unusedSimpArgs false
set_option linter.unusedVariables false
namespace Go.Proofs.Ytaoennekamlfeaa.OrbitWidens
open Go Go.RowKit Go.Ob Go.Ab Go.Proofs.Ytaoennekamlfeaa
set_option maxRecDepth 100000

theorem eq_place (d : Nat) (w : World) (a b c a' b' c' : Int) : (Op.equalIn (d + 2) 26 (.agg #[.int .i64 a, .int .i64 b, .int .i64 c]) (.agg #[.int .i64 a', .int .i64 b', .int .i64 c'])).run Try.prog w = .ok (decide ((a, b, c) = (a', b', c'))) w := by
  go_simp
  by_cases h1 : a = a' <;> by_cases h2 : b = b' <;> by_cases h3 : c = c' <;> simp [h1, h2, h3]

/-- 'p != q' of two places. -/
theorem ne_place {t : T} {m : Mem} {dst : Option Tmp} {rt ty' : TypeId} {pos : String} {after : Array Edge} {guard : Option (Nat × Bool)} {x y : Operand} {a b c a' b' c' : Int} (hx : t.ev x = .agg #[.int .i64 a, .int .i64 b, .int .i64 c]) (hy : t.ev y = .agg #[.int .i64 a', .int .i64 b', .int .i64 c']) :
    OQ Try.prog ⟨dst, .binOp .neq 26 x y ty', rt, pos, after, guard⟩ t m (.bool (!decide ((a, b, c) = (a', b', c')))) := by
  refine OQ.closed (fun cs b => by simp) (fun z hz => ?_) (fun w => ?_) rfl
  · simp [Op.operands] at hz
    rcases hz with rfl | rfl
    · rw [hx]; rfl
    · rw [hy]; rfl
  · have e := eq_place 9998 w a b c a' b' c'
    have hgt : (Try.prog).eqGuardType (Try.prog).depth 26 = false := by kernel_rfl
    have hg : (eqGuard .neq 26 x y (.agg #[.int .i64 a, .int .i64 b, .int .i64 c]) (.agg #[.int .i64 a', .int .i64 b', .int .i64 c'])).run Try.prog w = .ok () w := by
      simp [eqGuard, program, Sem.run, Sem.run_bind, hgt]
    simp only [execOp, hx, hy, Sem.run_bind, hg, Result.andThen_ok, binOp, Op.equal, Op.maxDepth]
    erw [e]
    simp [go_sem]

set_option maxHeartbeats 8000000 in
/-- The walk, the arguments as a right orbit has them. -/
theorem main_p (nm : ByteArray) (bd we wb t : Int) (l : List St) (hnm : nm.size ≤ 1000) (hR : Right bd l) (h0 : frstT l ≤ t) (h1 : t ≤ lastT l) (hA : atE nm.data.toList bd l t = 0) (hf : fewB nm.size l.length = true) (hwe : 0 ≤ we ∧ we ≤ 100000) (hwb : 0 ≤ wb ∧ wb ≤ 100000)
    (hY : (orbE nm.data.toList (bd + wb) (l.map (wid we))).2 = 0) :
    PCalls Try.prog 5 [obN nm bd 0 l.length, .agg #[.int .i64 we, .int .i64 wb], .int .i64 t] [some ⟨flatS l, false, 0⟩] (.bool true) := by
  have hn2 := hR.n2
  have hn40 := hR.n40
  have hb0 := hR.b0
  have hb1 := hR.b1
  have hwf : ∀ k, k < l.length → -9223372036854775808 ≤ (at_ l k).t ∧ (at_ l k).t ≤ 9223372036854775807 := fun k hk => by
    obtain ⟨h1, h2, _⟩ := hR.ok k hk
    omega
  have hlen : (l.map (wid we)).length = l.length := by simp
  have hwf' : ∀ k, k < (l.map (wid we)).length → -9223372036854775808 ≤ (at_ (l.map (wid we)) k).t ∧ (at_ (l.map (wid we)) k).t ≤ 9223372036854775807 := fun k hk => by
    rw [at_wid (by omega)]
    exact hwf k (by omega)
  have hR' := (orbE_right hY).1
  have hin := bx_wid hR hR' hwe.1 hwb.1 h0 h1
  have hA' : atE nm.data.toList (bd + wb) (l.map (wid we)) t = 0 := by
    unfold atE
    rw [if_neg (by simp [hY]), if_pos ⟨by rw [frst_wid hn2]; exact h0, by rw [last_wid hn2]; exact h1⟩]
  have hBo : bxOr nm.data.toList bd l t = bx bd l t := by unfold bxOr; rw [if_pos hA]
  have hBy : bxOr nm.data.toList (bd + wb) (l.map (wid we)) t = bx (bd + wb) (l.map (wid we)) t := by unfold bxOr; rw [if_pos hA']
  have hNo : nomOr nm.data.toList bd l t = nom l t := by unfold nomOr; rw [if_pos hA]
  have hNy : nomOr nm.data.toList (bd + wb) (l.map (wid we)) t = nom l t := by unfold nomOr; rw [if_pos hA', hin.2]
  -- contracts
  have HAw : ∀ m : Mem, PCalls Try.prog 15 [] m (.bool true) := fun m => PCalls.of_calls rfl rfl fun w => awake_any w
  have HF : ∀ m : Mem, m.at 0 = some ⟨flatS l, false, 0⟩ → PCalls Try.prog 25 [obN nm bd 0 l.length] m (.bool true) := fun m hm => of_ob (us := []) hm rfl rfl (by omega) rfl rfl fun w b' off cap hS hbw hcap => by
    have := Few_any nm bd (some ⟨b', off, none⟩) l.length cap w (by omega) (by omega)
    rw [hf] at this
    exact this
  have HT : ∀ m : Mem, m.at 0 = some ⟨flatS l, false, 0⟩ → PCalls Try.prog 28 [obN nm bd 0 l.length, .int .i64 t] m (.int .i64 0) := fun m hm => of_ob (us := [_]) hm rfl rfl (by omega) rfl rfl fun w b' off cap hS hbw hcap => by
    have := tickErr_any nm bd t (some ⟨b', off, none⟩) cap l w (OrbIn.mk' hnm hwf hS hbw hcap (by omega))
    rw [hA] at this
    exact this
  have HW : ∀ (x : Int) (m : Mem), 0 ≤ x ∧ x ≤ 100000 → PCalls Try.prog 21 [.int .i64 x, .int .i64 0, .int .i64 100000] m (.bool true) := fun x m hx => PCalls.of_same rfl rfl fun w => by
    have := rWithin_any x 0 100000 w
    rw [show rngB x 0 100000 = true from rngB_true.2 hx] at this
    exact this
  have HC : ∀ m : Mem, m.at 0 = some ⟨flatS l, false, 0⟩ → ACalls Try.prog 18 [obN nm bd 0 l.length] m (obN nm bd m.length l.length) (m ++ [some ⟨flatS l, true, 5⟩]) := fun m hm => Copy_p nm bd l hm rfl rfl (by omega) (by omega)
  have HC' : ∀ (m : Mem) (b : Nat), m.at b = some ⟨flatS (l.map (wid we)), true, 5⟩ → ACalls Try.prog 18 [obN nm (bd + wb) b l.length] m (obN nm (bd + wb) m.length l.length) (m ++ [some ⟨flatS (l.map (wid we)), true, 5⟩]) := fun m b hm => Copy_p nm (bd + wb) (l.map (wid we)) hm rfl hlen (by omega) (by omega)
  have HE : ∀ (m : Mem) (b : Nat), m.at b = some ⟨flatS (l.map (wid we)), true, 5⟩ → PCalls Try.prog 19 [obN nm (bd + wb) b l.length] m (.int .i64 0) := fun m b hm => of_ob (us := []) hm rfl hlen (by omega) rfl rfl fun w b' off cap hS hbw hcap => by
    have := Err_any nm (bd + wb) (some ⟨b', off, none⟩) cap (l.map (wid we)) w (OrbIn.mk' hnm hwf' hS hbw hcap (by omega))
    rw [hY] at this
    exact this
  have HB : ∀ (m : Mem) (b : Nat) (o : Bool) (z : Nat), m.at b = some ⟨flatS l, o, z⟩ → PCalls Try.prog 27 [obN nm bd b l.length, .int .i64 t] m (.tuple #[bxV (bx bd l t), .int .i64 0]) := fun m b o z hm => of_ob (us := [_]) hm rfl rfl (by omega) rfl rfl fun w b' off cap hS hbw hcap => by
    have := BoxAt_any nm bd t (some ⟨b', off, none⟩) cap l w (OrbIn.mk' hnm hwf hS hbw hcap (by omega))
    rw [hBo, hA] at this
    exact this
  have HB' : ∀ (m : Mem) (b : Nat) (o : Bool) (z : Nat), m.at b = some ⟨flatS (l.map (wid we)), o, z⟩ → PCalls Try.prog 27 [obN nm (bd + wb) b l.length, .int .i64 t] m (.tuple #[bxV (bx (bd + wb) (l.map (wid we)) t), .int .i64 0]) := fun m b o z hm => of_ob (us := [_]) hm rfl hlen (by omega) rfl rfl fun w b' off cap hS hbw hcap => by
    have := BoxAt_any nm (bd + wb) t (some ⟨b', off, none⟩) cap (l.map (wid we)) w (OrbIn.mk' hnm hwf' hS hbw hcap (by omega))
    rw [hBy, hA'] at this
    exact this
  have HN : ∀ (m : Mem) (b : Nat) (o : Bool) (z : Nat), m.at b = some ⟨flatS l, o, z⟩ → PCalls Try.prog 26 [obN nm bd b l.length, .int .i64 t] m (.tuple #[p3V (nom l t), .int .i64 0]) := fun m b o z hm => of_ob (us := [_]) hm rfl rfl (by omega) rfl rfl fun w b' off cap hS hbw hcap => by
    have := Nominal_any nm bd t (some ⟨b', off, none⟩) cap l w (OrbIn.mk' hnm hwf hS hbw hcap (by omega))
    rw [hNo, hA] at this
    exact this
  have HN' : ∀ (m : Mem) (b : Nat) (o : Bool) (z : Nat), m.at b = some ⟨flatS (l.map (wid we)), o, z⟩ → PCalls Try.prog 26 [obN nm (bd + wb) b l.length, .int .i64 t] m (.tuple #[p3V (nom l t), .int .i64 0]) := fun m b o z hm => of_ob (us := [_]) hm rfl hlen (by omega) rfl rfl fun w b' off cap hS hbw hcap => by
    have := Nominal_any nm (bd + wb) t (some ⟨b', off, none⟩) cap (l.map (wid we)) w (OrbIn.mk' hnm hwf' hS hbw hcap (by omega))
    rw [hNy, hA'] at this
    exact this
  have hin' := hin.1
  have hok : ∀ k, k < l.length → 0 ≤ (at_ l k).e ∧ (at_ l k).e ≤ 100000 := fun k hk => by
    obtain ⟨_, _, _, _, _, _, _, _, h9, h10⟩ := hR.ok k hk
    exact ⟨h9, h10⟩
  have hwall : widTo we l l.length = l.map (wid we) := widTo_all (Nat.le_refl _)
  have hget : ∀ k, k < l.length → (flatS (widTo we l k))[k * 5 + 4]? = some (.int .i64 (at_ l k).e) := fun k hk => by
    rw [flatS_get _ k 4 (by omega) (by rw [widTo_len]; exact hk), at_widTo hk]
    rfl
  clear hA hf hY hR hR' hin hA' hBo hBy hNo hNy hwf hwf' h0 h1
  generalize bx bd l t = q at *
  generalize bx (bd + wb) (l.map (wid we)) t = q' at *
  generalize nom l t = p at *
  obtain ⟨a0, a1, a2, a3, a4, a5⟩ := q
  obtain ⟨c0, c1, c2, c3, c4, c5⟩ := q'
  obtain ⟨x0, x1, x2⟩ := p
  obtain ⟨i0, i1, i2, i3, i4, i5⟩ := hin'
  simp only at i0 i1 i2 i3 i4 i5
  refine PCalls.enter (t := [obN nm bd 0 l.length, .agg #[.int .i64 we, .int .i64 wb], .int .i64 t, undef, undef, undef, undef, undef, undef, undef, undef, undef, undef, undef, undef, undef, undef, undef, undef, undef, undef, undef, undef, undef, undef, undef, undef, undef, undef, undef, undef, undef, undef, undef, undef, undef, undef, undef, undef, undef, undef, undef, undef, undef, undef, undef, undef, undef, undef, undef, undef, undef, undef, undef, undef, undef, undef, undef, undef, undef, undef, undef, undef, undef, undef, undef, undef, undef, undef, undef, undef, undef, undef, undef, undef, undef, undef, undef, undef, undef, undef, undef, undef, undef, undef, undef, undef, undef, undef, undef, undef, undef, undef, undef, undef, undef, undef, undef, undef, undef, undef, undef, undef, undef, undef, undef, undef, undef, undef, undef, undef, undef, undef, undef, undef, undef, undef, undef, undef, undef, undef, undef, undef, undef, undef, undef, undef, undef, undef, undef, undef, undef, undef, undef, undef, undef, undef, undef, undef, undef, undef, undef, undef]) Try.func5 rfl (ro_one _ _) rfl fun E => ?_
  refine AW.seq ?_
  refine AW.region ?_
  refine AL.w rfl (OW.box (by conv => lhs; whnf) (by intro r h; cases h)) ?_
  conv => (arg 5; try simp only [T.put, T.ev, putAt, setsT, newBlks, fillL, List.map, List.set, List.append, List.cons_append, List.nil_append, List.length, List.getElem?_cons_zero, List.getElem?_cons_succ, Nat.reduceAdd, Nat.reduceMul, Nat.zero_add, Nat.add_zero, Nat.mul_one, Nat.zero_mul, List.drop, List.take, List.toList_toArray, Value.cells, Int.reduceToNat, Int.toNat_natCast, List.getD, Option.getD, Option.map, flat, flat1, scal, if_true, ↓reduceIte])
  conv => (arg 6; try simp only [T.put, T.ev, putAt, setsT, newBlks, fillL, List.map, List.set, List.append, List.cons_append, List.nil_append, List.length, List.getElem?_cons_zero, List.getElem?_cons_succ, Nat.reduceAdd, Nat.reduceMul, Nat.zero_add, Nat.add_zero, Nat.mul_one, Nat.zero_mul, List.drop, List.take, List.toList_toArray, Value.cells, Int.reduceToNat, Int.toNat_natCast, List.getD, Option.getD, Option.map, flat, flat1, scal, if_true, ↓reduceIte])
  refine AL.w rfl (OW.box (by conv => lhs; whnf) (by intro r h; cases h)) ?_
  conv => (arg 5; try simp only [T.put, T.ev, putAt, setsT, newBlks, fillL, List.map, List.set, List.append, List.cons_append, List.nil_append, List.length, List.getElem?_cons_zero, List.getElem?_cons_succ, Nat.reduceAdd, Nat.reduceMul, Nat.zero_add, Nat.add_zero, Nat.mul_one, Nat.zero_mul, List.drop, List.take, List.toList_toArray, Value.cells, Int.reduceToNat, Int.toNat_natCast, List.getD, Option.getD, Option.map, flat, flat1, scal, if_true, ↓reduceIte])
  conv => (arg 6; try simp only [T.put, T.ev, putAt, setsT, newBlks, fillL, List.map, List.set, List.append, List.cons_append, List.nil_append, List.length, List.getElem?_cons_zero, List.getElem?_cons_succ, Nat.reduceAdd, Nat.reduceMul, Nat.zero_add, Nat.add_zero, Nat.mul_one, Nat.zero_mul, List.drop, List.take, List.toList_toArray, Value.cells, Int.reduceToNat, Int.toNat_natCast, List.getD, Option.getD, Option.map, flat, flat1, scal, if_true, ↓reduceIte])
  refine AL.q rfl (OQ.assign (by conv => lhs; whnf)) ?_
  conv => (arg 5; try simp only [T.put, T.ev, putAt, setsT, newBlks, fillL, List.map, List.set, List.append, List.cons_append, List.nil_append, List.length, List.getElem?_cons_zero, List.getElem?_cons_succ, Nat.reduceAdd, Nat.reduceMul, Nat.zero_add, Nat.add_zero, Nat.mul_one, Nat.zero_mul, List.drop, List.take, List.toList_toArray, Value.cells, Int.reduceToNat, Int.toNat_natCast, List.getD, Option.getD, Option.map, flat, flat1, scal, if_true, ↓reduceIte])
  refine AL.nil ?_
  refine Then.n ?_
  refine AW.seq ?_
  refine AW.seq ?_
  refine AW.region ?_
  refine AL.pcall rfl (by kernel_rfl) rfl (HAw _) ?_
  conv => (arg 5; try simp only [T.put, T.ev, putAt, setsT, newBlks, fillL, List.map, List.set, List.append, List.cons_append, List.nil_append, List.length, List.getElem?_cons_zero, List.getElem?_cons_succ, Nat.reduceAdd, Nat.reduceMul, Nat.zero_add, Nat.add_zero, Nat.mul_one, Nat.zero_mul, List.drop, List.take, List.toList_toArray, Value.cells, Int.reduceToNat, Int.toNat_natCast, List.getD, Option.getD, Option.map, flat, flat1, scal, if_true, ↓reduceIte])
  refine AL.q rfl (OQ.not rfl) ?_
  conv => (arg 5; try simp only [T.put, T.ev, putAt, setsT, newBlks, fillL, List.map, List.set, List.append, List.cons_append, List.nil_append, List.length, List.getElem?_cons_zero, List.getElem?_cons_succ, Nat.reduceAdd, Nat.reduceMul, Nat.zero_add, Nat.add_zero, Nat.mul_one, Nat.zero_mul, List.drop, List.take, List.toList_toArray, Value.cells, Int.reduceToNat, Int.toNat_natCast, List.getD, Option.getD, Option.map, flat, flat1, scal, if_true, ↓reduceIte])
  refine AL.nil ?_
  refine Then.n ?_
  refine AW.cond rfl (fun hc1 => ?_) (fun hc1 => ?_)
  · have hc1_ := hc1; (try simp only [decide_eq_true_eq, decide_eq_false_iff_not, Bool.not_true, Bool.not_false, Bool.not_eq_true', Bool.not_eq_false', Int.not_lt, Int.not_le, Classical.not_not, ne_eq] at hc1_)
    first
    | (exfalso; simp at hc1_; done)
    | (exfalso; omega; done)
    | skip
      refine AW.seq ?_
      refine AW.region ?_
      refine AL.q rfl (OQ.assign (by conv => lhs; whnf)) ?_
      conv => (arg 5; try simp only [T.put, T.ev, putAt, setsT, newBlks, fillL, List.map, List.set, List.append, List.cons_append, List.nil_append, List.length, List.getElem?_cons_zero, List.getElem?_cons_succ, Nat.reduceAdd, Nat.reduceMul, Nat.zero_add, Nat.add_zero, Nat.mul_one, Nat.zero_mul, List.drop, List.take, List.toList_toArray, Value.cells, Int.reduceToNat, Int.toNat_natCast, List.getD, Option.getD, Option.map, flat, flat1, scal, if_true, ↓reduceIte])
      refine AL.nil ?_
      refine Then.n ?_
      refine AW.ret ?_
      refine Then.r ?_
      refine FinP.ret (.tmp (by conv => lhs; whnf) .nil) ?_ rfl
      (try simp only [pack, List.drop, List.take])
      all_goals (rfl)
  · have hc1_ := hc1; (try simp only [decide_eq_true_eq, decide_eq_false_iff_not, Bool.not_true, Bool.not_false, Bool.not_eq_true', Bool.not_eq_false', Int.not_lt, Int.not_le, Classical.not_not, ne_eq] at hc1_)
    first
    | (exfalso; simp at hc1_; done)
    | (exfalso; omega; done)
    | skip
      refine AW.skip ?_
      refine Then.n ?_
      refine AW.seq ?_
      refine AW.seq ?_
      refine AW.region ?_
      refine AL.q rfl (OQ.loadN (n := 3) rfl (by kernel_rfl) (by kernel_rfl) (by first | (exact hget k hkl) | rfl)) ?_
      refine AL.pcall rfl (by kernel_rfl) rfl (HF _ rfl) ?_
      conv => (arg 5; try simp only [T.put, T.ev, putAt, setsT, newBlks, fillL, List.map, List.set, List.append, List.cons_append, List.nil_append, List.length, List.getElem?_cons_zero, List.getElem?_cons_succ, Nat.reduceAdd, Nat.reduceMul, Nat.zero_add, Nat.add_zero, Nat.mul_one, Nat.zero_mul, List.drop, List.take, List.toList_toArray, Value.cells, Int.reduceToNat, Int.toNat_natCast, List.getD, Option.getD, Option.map, flat, flat1, scal, if_true, ↓reduceIte])
      refine AL.q rfl (OQ.not rfl) ?_
      refine AL.q rfl (OQ.move (by conv => lhs; whnf)) ?_
      refine AL.gcase rfl rfl (fun hg2 => ?_) (fun hg2 => ?_)
      · have hg2_ := hg2; (try simp only [decide_eq_true_eq, decide_eq_false_iff_not, Bool.not_true, Bool.not_false, Bool.not_eq_true', Bool.not_eq_false', Int.not_lt, Int.not_le, Classical.not_not, ne_eq] at hg2_)
        first
        | (exfalso; simp at hg2_; done)
        | (exfalso; omega; done)
        | skip
          refine AL.q rfl (OQ.loadN (n := 3) rfl (by kernel_rfl) (by kernel_rfl) (by first | (exact hget k hkl) | rfl)) ?_
          refine AL.gyes rfl rfl hg2 ?_
          refine AL.q rfl (OQ.move (by conv => lhs; whnf)) ?_
          refine AL.gyes rfl rfl hg2 ?_
          refine AL.pcall rfl (by kernel_rfl) rfl (HT _ rfl) ?_
          conv => (arg 5; try simp only [T.put, T.ev, putAt, setsT, newBlks, fillL, List.map, List.set, List.append, List.cons_append, List.nil_append, List.length, List.getElem?_cons_zero, List.getElem?_cons_succ, Nat.reduceAdd, Nat.reduceMul, Nat.zero_add, Nat.add_zero, Nat.mul_one, Nat.zero_mul, List.drop, List.take, List.toList_toArray, Value.cells, Int.reduceToNat, Int.toNat_natCast, List.getD, Option.getD, Option.map, flat, flat1, scal, if_true, ↓reduceIte])
          refine AL.gyes rfl rfl hg2 ?_
          refine AL.q rfl (OQ.neq rfl rfl) ?_
          refine AL.q rfl (OQ.pickF rfl hg2 (by conv => lhs; whnf)) ?_
          refine AL.q rfl (OQ.move (by conv => lhs; whnf)) ?_
          refine AL.gcase rfl rfl (fun hg3 => ?_) (fun hg3 => ?_)
          · have hg3_ := hg3; (try simp only [decide_eq_true_eq, decide_eq_false_iff_not, Bool.not_true, Bool.not_false, Bool.not_eq_true', Bool.not_eq_false', Int.not_lt, Int.not_le, Classical.not_not, ne_eq] at hg3_)
            first
            | (exfalso; simp at hg3_; done)
            | (exfalso; omega; done)
            | skip
              refine AL.q rfl (OQ.fieldA (n := 1) (off := 0) (g := false) rfl (by kernel_rfl) (by decide)) ?_
              conv => (arg 5; try simp only [T.put, T.ev, putAt, setsT, newBlks, fillL, List.map, List.set, List.append, List.cons_append, List.nil_append, List.length, List.getElem?_cons_zero, List.getElem?_cons_succ, Nat.reduceAdd, Nat.reduceMul, Nat.zero_add, Nat.add_zero, Nat.mul_one, Nat.zero_mul, List.drop, List.take, List.toList_toArray, Value.cells, Int.reduceToNat, Int.toNat_natCast, List.getD, Option.getD, Option.map, flat, flat1, scal, if_true, ↓reduceIte])
              refine AL.gyes rfl rfl hg3 ?_
              refine AL.q rfl (OQ.load1 rfl (by kernel_rfl) (by first | (exact hget k hkl) | (conv => lhs; whnf))) ?_
              refine AL.gyes rfl rfl hg3 ?_
              refine AL.pcall rfl (by kernel_rfl) rfl (HW _ _ (by omega)) ?_
              conv => (arg 5; try simp only [T.put, T.ev, putAt, setsT, newBlks, fillL, List.map, List.set, List.append, List.cons_append, List.nil_append, List.length, List.getElem?_cons_zero, List.getElem?_cons_succ, Nat.reduceAdd, Nat.reduceMul, Nat.zero_add, Nat.add_zero, Nat.mul_one, Nat.zero_mul, List.drop, List.take, List.toList_toArray, Value.cells, Int.reduceToNat, Int.toNat_natCast, List.getD, Option.getD, Option.map, flat, flat1, scal, if_true, ↓reduceIte])
              refine AL.gyes rfl rfl hg3 ?_
              refine AL.q rfl (OQ.not rfl) ?_
              refine AL.q rfl (OQ.pickF rfl hg3 (by conv => lhs; whnf)) ?_
              refine AL.q rfl (OQ.move (by conv => lhs; whnf)) ?_
              refine AL.gcase rfl rfl (fun hg4 => ?_) (fun hg4 => ?_)
              · have hg4_ := hg4; (try simp only [decide_eq_true_eq, decide_eq_false_iff_not, Bool.not_true, Bool.not_false, Bool.not_eq_true', Bool.not_eq_false', Int.not_lt, Int.not_le, Classical.not_not, ne_eq] at hg4_)
                first
                | (exfalso; simp at hg4_; done)
                | (exfalso; omega; done)
                | skip
                  refine AL.q rfl (OQ.fieldA (n := 1) (off := 1) (g := false) rfl (by kernel_rfl) (by decide)) ?_
                  conv => (arg 5; try simp only [T.put, T.ev, putAt, setsT, newBlks, fillL, List.map, List.set, List.append, List.cons_append, List.nil_append, List.length, List.getElem?_cons_zero, List.getElem?_cons_succ, Nat.reduceAdd, Nat.reduceMul, Nat.zero_add, Nat.add_zero, Nat.mul_one, Nat.zero_mul, List.drop, List.take, List.toList_toArray, Value.cells, Int.reduceToNat, Int.toNat_natCast, List.getD, Option.getD, Option.map, flat, flat1, scal, if_true, ↓reduceIte])
                  refine AL.gyes rfl rfl hg4 ?_
                  refine AL.q rfl (OQ.load1 rfl (by kernel_rfl) (by first | (exact hget k hkl) | (conv => lhs; whnf))) ?_
                  refine AL.gyes rfl rfl hg4 ?_
                  refine AL.pcall rfl (by kernel_rfl) rfl (HW _ _ (by omega)) ?_
                  conv => (arg 5; try simp only [T.put, T.ev, putAt, setsT, newBlks, fillL, List.map, List.set, List.append, List.cons_append, List.nil_append, List.length, List.getElem?_cons_zero, List.getElem?_cons_succ, Nat.reduceAdd, Nat.reduceMul, Nat.zero_add, Nat.add_zero, Nat.mul_one, Nat.zero_mul, List.drop, List.take, List.toList_toArray, Value.cells, Int.reduceToNat, Int.toNat_natCast, List.getD, Option.getD, Option.map, flat, flat1, scal, if_true, ↓reduceIte])
                  refine AL.gyes rfl rfl hg4 ?_
                  refine AL.q rfl (OQ.not rfl) ?_
                  refine AL.q rfl (OQ.pickF rfl hg4 (by conv => lhs; whnf)) ?_
                  conv => (arg 5; try simp only [T.put, T.ev, putAt, setsT, newBlks, fillL, List.map, List.set, List.append, List.cons_append, List.nil_append, List.length, List.getElem?_cons_zero, List.getElem?_cons_succ, Nat.reduceAdd, Nat.reduceMul, Nat.zero_add, Nat.add_zero, Nat.mul_one, Nat.zero_mul, List.drop, List.take, List.toList_toArray, Value.cells, Int.reduceToNat, Int.toNat_natCast, List.getD, Option.getD, Option.map, flat, flat1, scal, if_true, ↓reduceIte])
                  refine AL.nil ?_
                  refine Then.n ?_
                  refine AW.cond rfl (fun hc5 => ?_) (fun hc5 => ?_)
                  · have hc5_ := hc5; (try simp only [decide_eq_true_eq, decide_eq_false_iff_not, Bool.not_true, Bool.not_false, Bool.not_eq_true', Bool.not_eq_false', Int.not_lt, Int.not_le, Classical.not_not, ne_eq] at hc5_)
                    first
                    | (exfalso; simp at hc5_; done)
                    | (exfalso; omega; done)
                    | skip
                      refine AW.seq ?_
                      refine AW.region ?_
                      refine AL.q rfl (OQ.assign (by conv => lhs; whnf)) ?_
                      conv => (arg 5; try simp only [T.put, T.ev, putAt, setsT, newBlks, fillL, List.map, List.set, List.append, List.cons_append, List.nil_append, List.length, List.getElem?_cons_zero, List.getElem?_cons_succ, Nat.reduceAdd, Nat.reduceMul, Nat.zero_add, Nat.add_zero, Nat.mul_one, Nat.zero_mul, List.drop, List.take, List.toList_toArray, Value.cells, Int.reduceToNat, Int.toNat_natCast, List.getD, Option.getD, Option.map, flat, flat1, scal, if_true, ↓reduceIte])
                      refine AL.nil ?_
                      refine Then.n ?_
                      refine AW.ret ?_
                      refine Then.r ?_
                      refine FinP.ret (.tmp (by conv => lhs; whnf) .nil) ?_ rfl
                      (try simp only [pack, List.drop, List.take])
                      all_goals (rfl)
                  · have hc5_ := hc5; (try simp only [decide_eq_true_eq, decide_eq_false_iff_not, Bool.not_true, Bool.not_false, Bool.not_eq_true', Bool.not_eq_false', Int.not_lt, Int.not_le, Classical.not_not, ne_eq] at hc5_)
                    first
                    | (exfalso; simp at hc5_; done)
                    | (exfalso; omega; done)
                    | skip
                      refine AW.skip ?_
                      refine Then.n ?_
                      refine AW.seq ?_
                      refine AW.region ?_
                      refine AL.q rfl (OQ.loadN (n := 3) rfl (by kernel_rfl) (by kernel_rfl) (by first | (exact hget k hkl) | rfl)) ?_
                      refine AL.acall rfl (by kernel_rfl) rfl ((by first | exact HC _ rfl | exact HC' _ _ rfl)) ?_
                      conv => (arg 5; try simp only [T.put, T.ev, putAt, setsT, newBlks, fillL, List.map, List.set, List.append, List.cons_append, List.nil_append, List.length, List.getElem?_cons_zero, List.getElem?_cons_succ, Nat.reduceAdd, Nat.reduceMul, Nat.zero_add, Nat.add_zero, Nat.mul_one, Nat.zero_mul, List.drop, List.take, List.toList_toArray, Value.cells, Int.reduceToNat, Int.toNat_natCast, List.getD, Option.getD, Option.map, flat, flat1, scal, if_true, ↓reduceIte])
                      conv => (arg 6; try simp only [T.put, T.ev, putAt, setsT, newBlks, fillL, List.map, List.set, List.append, List.cons_append, List.nil_append, List.length, List.getElem?_cons_zero, List.getElem?_cons_succ, Nat.reduceAdd, Nat.reduceMul, Nat.zero_add, Nat.add_zero, Nat.mul_one, Nat.zero_mul, List.drop, List.take, List.toList_toArray, Value.cells, Int.reduceToNat, Int.toNat_natCast, List.getD, Option.getD, Option.map, flat, flat1, scal, if_true, ↓reduceIte])
                      refine AL.w rfl (OW.alloc (z := [.string ⟨#[]⟩, .int .i64 0, .slice none 0 0]) (by kernel_rfl) rfl) ?_
                      conv => (arg 5; try simp only [T.put, T.ev, putAt, setsT, newBlks, fillL, List.map, List.set, List.append, List.cons_append, List.nil_append, List.length, List.getElem?_cons_zero, List.getElem?_cons_succ, Nat.reduceAdd, Nat.reduceMul, Nat.zero_add, Nat.add_zero, Nat.mul_one, Nat.zero_mul, List.drop, List.take, List.toList_toArray, Value.cells, Int.reduceToNat, Int.toNat_natCast, List.getD, Option.getD, Option.map, flat, flat1, scal, if_true, ↓reduceIte])
                      conv => (arg 6; try simp only [T.put, T.ev, putAt, setsT, newBlks, fillL, List.map, List.set, List.append, List.cons_append, List.nil_append, List.length, List.getElem?_cons_zero, List.getElem?_cons_succ, Nat.reduceAdd, Nat.reduceMul, Nat.zero_add, Nat.add_zero, Nat.mul_one, Nat.zero_mul, List.drop, List.take, List.toList_toArray, Value.cells, Int.reduceToNat, Int.toNat_natCast, List.getD, Option.getD, Option.map, flat, flat1, scal, if_true, ↓reduceIte])
                      refine AL.w rfl (OW.store (n := 3) rfl (by conv => lhs; whnf) rfl rfl (by kernel_rfl) rfl rfl (by decide) rfl (by first | exact Nat.le_of_ble_eq_true rfl | ((show k * 5 + 4 + 1 ≤ (flatS (widTo we l k)).length; rw [flatS_len, widTo_len]; omega))) (by intro r h; cases h)) ?_
                      conv => (arg 5; try simp only [T.put, T.ev, putAt, setsT, newBlks, fillL, List.map, List.set, List.append, List.cons_append, List.nil_append, List.length, List.getElem?_cons_zero, List.getElem?_cons_succ, Nat.reduceAdd, Nat.reduceMul, Nat.zero_add, Nat.add_zero, Nat.mul_one, Nat.zero_mul, List.drop, List.take, List.toList_toArray, Value.cells, Int.reduceToNat, Int.toNat_natCast, List.getD, Option.getD, Option.map, flat, flat1, scal, if_true, ↓reduceIte])
                      conv => (arg 6; try simp only [T.put, T.ev, putAt, setsT, newBlks, fillL, List.map, List.set, List.append, List.cons_append, List.nil_append, List.length, List.getElem?_cons_zero, List.getElem?_cons_succ, Nat.reduceAdd, Nat.reduceMul, Nat.zero_add, Nat.add_zero, Nat.mul_one, Nat.zero_mul, List.drop, List.take, List.toList_toArray, Value.cells, Int.reduceToNat, Int.toNat_natCast, List.getD, Option.getD, Option.map, flat, flat1, scal, if_true, ↓reduceIte])
                      refine AL.nil ?_
                      refine Then.n ?_
                      refine AW.seq ?_
                      refine AW.region ?_
                      refine AL.q rfl (OQ.fieldA (n := 1) (off := 1) (g := false) rfl (by kernel_rfl) (by decide)) ?_
                      conv => (arg 5; try simp only [T.put, T.ev, putAt, setsT, newBlks, fillL, List.map, List.set, List.append, List.cons_append, List.nil_append, List.length, List.getElem?_cons_zero, List.getElem?_cons_succ, Nat.reduceAdd, Nat.reduceMul, Nat.zero_add, Nat.add_zero, Nat.mul_one, Nat.zero_mul, List.drop, List.take, List.toList_toArray, Value.cells, Int.reduceToNat, Int.toNat_natCast, List.getD, Option.getD, Option.map, flat, flat1, scal, if_true, ↓reduceIte])
                      refine AL.q rfl (OQ.load1 rfl (by kernel_rfl) (by first | (exact hget k hkl) | (conv => lhs; whnf))) ?_
                      refine AL.q rfl (OQ.fieldA (n := 1) (off := 1) (g := false) rfl (by kernel_rfl) (by decide)) ?_
                      conv => (arg 5; try simp only [T.put, T.ev, putAt, setsT, newBlks, fillL, List.map, List.set, List.append, List.cons_append, List.nil_append, List.length, List.getElem?_cons_zero, List.getElem?_cons_succ, Nat.reduceAdd, Nat.reduceMul, Nat.zero_add, Nat.add_zero, Nat.mul_one, Nat.zero_mul, List.drop, List.take, List.toList_toArray, Value.cells, Int.reduceToNat, Int.toNat_natCast, List.getD, Option.getD, Option.map, flat, flat1, scal, if_true, ↓reduceIte])
                      refine AL.q rfl (OQ.load1 rfl (by kernel_rfl) (by first | (exact hget k hkl) | (conv => lhs; whnf))) ?_
                      first | refine AL.q rfl (OQ.addi rfl rfl (by omega)) ?_ | refine AL.q rfl (OQ.add rfl rfl) ?_
                      refine AL.q rfl (OQ.fieldA (n := 1) (off := 1) (g := false) rfl (by kernel_rfl) (by decide)) ?_
                      conv => (arg 5; try simp only [T.put, T.ev, putAt, setsT, newBlks, fillL, List.map, List.set, List.append, List.cons_append, List.nil_append, List.length, List.getElem?_cons_zero, List.getElem?_cons_succ, Nat.reduceAdd, Nat.reduceMul, Nat.zero_add, Nat.add_zero, Nat.mul_one, Nat.zero_mul, List.drop, List.take, List.toList_toArray, Value.cells, Int.reduceToNat, Int.toNat_natCast, List.getD, Option.getD, Option.map, flat, flat1, scal, if_true, ↓reduceIte])
                      refine AL.w rfl (OW.store (n := 1) rfl (by conv => lhs; whnf) rfl rfl (by kernel_rfl) rfl rfl (by decide) rfl (by first | exact Nat.le_of_ble_eq_true rfl | ((show k * 5 + 4 + 1 ≤ (flatS (widTo we l k)).length; rw [flatS_len, widTo_len]; omega))) (by intro r h; cases h)) ?_
                      conv => (arg 5; try simp only [T.put, T.ev, putAt, setsT, newBlks, fillL, List.map, List.set, List.append, List.cons_append, List.nil_append, List.length, List.getElem?_cons_zero, List.getElem?_cons_succ, Nat.reduceAdd, Nat.reduceMul, Nat.zero_add, Nat.add_zero, Nat.mul_one, Nat.zero_mul, List.drop, List.take, List.toList_toArray, Value.cells, Int.reduceToNat, Int.toNat_natCast, List.getD, Option.getD, Option.map, flat, flat1, scal, if_true, ↓reduceIte])
                      conv => (arg 6; try simp only [T.put, T.ev, putAt, setsT, newBlks, fillL, List.map, List.set, List.append, List.cons_append, List.nil_append, List.length, List.getElem?_cons_zero, List.getElem?_cons_succ, Nat.reduceAdd, Nat.reduceMul, Nat.zero_add, Nat.add_zero, Nat.mul_one, Nat.zero_mul, List.drop, List.take, List.toList_toArray, Value.cells, Int.reduceToNat, Int.toNat_natCast, List.getD, Option.getD, Option.map, flat, flat1, scal, if_true, ↓reduceIte])
                      refine AL.nil ?_
                      refine Then.n ?_
                      refine AW.seq ?_
                      refine AW.seq ?_
                      refine AW.region ?_
                      refine AL.q rfl (OQ.assign (by conv => lhs; whnf)) ?_
                      conv => (arg 5; try simp only [T.put, T.ev, putAt, setsT, newBlks, fillL, List.map, List.set, List.append, List.cons_append, List.nil_append, List.length, List.getElem?_cons_zero, List.getElem?_cons_succ, Nat.reduceAdd, Nat.reduceMul, Nat.zero_add, Nat.add_zero, Nat.mul_one, Nat.zero_mul, List.drop, List.take, List.toList_toArray, Value.cells, Int.reduceToNat, Int.toNat_natCast, List.getD, Option.getD, Option.map, flat, flat1, scal, if_true, ↓reduceIte])
                      refine AL.nil ?_
                      refine Then.n ?_
                      refine AW.block ?_
                      refine AW.wk (Wk.forget [false, false, true, true, true, false, false, true, true, false, false, false, false, false, false, false, false, false, false, false, false, false, false, false, false, false, false, false, false, false, false, false, false, false, false, false, false, false, false, false, false, false, false, false, false, false, false, false, false, false, false, false, false, false, false, false, false, false, false, false, false, false, false, false, false, false, false, false, false, false, false, false, false, false, false, false, false, false, false, false, false, false, false, false, false, false, false, false, false, false, false, false, false, false, false, false, false, false, false, false, false, false, false, false, false, false, false, false, false, false, false, false, false, false, false, false, false, false, false, false, false, false, false, false, false, false, false, false, false, false, false, false, false, false, false, false, false, false, false, false, false, false, false] rfl) ?_
                      conv => (arg 4; simp only [fgt, if_true, if_false, Bool.false_eq_true])
                      refine AW.loop (fun n t' m => ∃ k : Nat, n = l.length - k ∧ k ≤ l.length ∧ t' = [junk, junk, .int .i64 t, .pointer (some ⟨1, 0, none⟩), .pointer (some ⟨2, 0, none⟩), junk, junk, .pointer (some ⟨4, 0, none⟩), .int .i64 k, junk, junk, junk, junk, junk, junk, junk, junk, junk, junk, junk, junk, junk, junk, junk, junk, junk, junk, junk, junk, junk, junk, junk, junk, junk, junk, junk, junk, junk, junk, junk, junk, junk, junk, junk, junk, junk, junk, junk, junk, junk, junk, junk, junk, junk, junk, junk, junk, junk, junk, junk, junk, junk, junk, junk, junk, junk, junk, junk, junk, junk, junk, junk, junk, junk, junk, junk, junk, junk, junk, junk, junk, junk, junk, junk, junk, junk, junk, junk, junk, junk, junk, junk, junk, junk, junk, junk, junk, junk, junk, junk, junk, junk, junk, junk, junk, junk, junk, junk, junk, junk, junk, junk, junk, junk, junk, junk, junk, junk, junk, junk, junk, junk, junk, junk, junk, junk, junk, junk, junk, junk, junk, junk, junk, junk, junk, junk, junk, junk, junk, junk, junk, junk, junk] ∧ m = [some ⟨flatS l, false, 0⟩, some ⟨[.string nm, .int .i64 bd, .slice (some ⟨0, 0, none⟩) l.length INF], true, 0⟩, some ⟨[.int .i64 we, .int .i64 wb], true, 0⟩, some ⟨flatS (widTo we l k), true, 5⟩, some ⟨[.string nm, .int .i64 (bd + wb), .slice (some ⟨3, 0, none⟩) l.length INF], true, 0⟩]) (l.length) ?_ ?_
                      · exact ⟨0, rfl, Nat.zero_le _, rfl, by rw [widTo_zero]⟩
                      · rintro n t' m ⟨k, rfl, hk, rfl, rfl⟩
                        refine AW.seq ?_
                        refine AW.seq ?_
                        refine AW.region ?_
                        refine AL.q rfl (OQ.move (by conv => lhs; whnf)) ?_
                        refine AL.q rfl (OQ.fieldA (n := 1) (off := 2) (g := false) rfl (by kernel_rfl) (by decide)) ?_
                        conv => (arg 5; try simp only [T.put, T.ev, putAt, setsT, newBlks, fillL, List.map, List.set, List.append, List.cons_append, List.nil_append, List.length, List.getElem?_cons_zero, List.getElem?_cons_succ, Nat.reduceAdd, Nat.reduceMul, Nat.zero_add, Nat.add_zero, Nat.mul_one, Nat.zero_mul, List.drop, List.take, List.toList_toArray, Value.cells, Int.reduceToNat, Int.toNat_natCast, List.getD, Option.getD, Option.map, flat, flat1, scal, if_true, ↓reduceIte])
                        refine AL.q rfl (OQ.load1 rfl (by kernel_rfl) (by first | (exact hget k hkl) | (conv => lhs; whnf))) ?_
                        refine AL.q rfl (OQ.lenS (r := (none, 5, true)) rfl (by kernel_rfl)) ?_
                        refine AL.q rfl (OQ.lss rfl rfl) ?_
                        conv => (arg 5; try simp only [T.put, T.ev, putAt, setsT, newBlks, fillL, List.map, List.set, List.append, List.cons_append, List.nil_append, List.length, List.getElem?_cons_zero, List.getElem?_cons_succ, Nat.reduceAdd, Nat.reduceMul, Nat.zero_add, Nat.add_zero, Nat.mul_one, Nat.zero_mul, List.drop, List.take, List.toList_toArray, Value.cells, Int.reduceToNat, Int.toNat_natCast, List.getD, Option.getD, Option.map, flat, flat1, scal, if_true, ↓reduceIte])
                        refine AL.nil ?_
                        refine Then.n ?_
                        refine AW.cond rfl (fun hc6 => ?_) (fun hc6 => ?_)
                        · have hc6_ := hc6; (try simp only [decide_eq_true_eq, decide_eq_false_iff_not, Bool.not_true, Bool.not_false, Bool.not_eq_true', Bool.not_eq_false', Int.not_lt, Int.not_le, Classical.not_not, ne_eq] at hc6_)
                          first
                          | (exfalso; simp at hc6_; done)
                          | (exfalso; omega; done)
                          | skip
                            refine AW.skip ?_
                            refine Then.n ?_
                            refine AW.seq ?_
                            refine AW.block ?_
                            have hkl : k < l.length := by omega
                            have hoke := hok k hkl
                            refine AW.draw 14 #[0, 1, 0, 0, 8, 0, 56, 120, 248, 0, 512, 2040, 4095, 8191, 16383] (by kernel_rfl) (by kernel_rfl) ?_
                            refine AD.q rfl (OQ.fieldA (n := 1) (off := 2) (g := false) rfl (by kernel_rfl) (by decide)) rfl rfl rfl ?_
                            conv => (arg 10; try simp only [T.put, T.ev, putAt, setsT, newBlks, fillL, List.map, List.set, List.append, List.cons_append, List.nil_append, List.length, List.getElem?_cons_zero, List.getElem?_cons_succ, Nat.reduceAdd, Nat.reduceMul, Nat.zero_add, Nat.add_zero, Nat.mul_one, Nat.zero_mul, List.drop, List.take, List.toList_toArray, Value.cells, Int.reduceToNat, Int.toNat_natCast, List.getD, Option.getD, Option.map, flat, flat1, scal, if_true, ↓reduceIte])
                            refine AD.q rfl (OQ.load1 rfl (by kernel_rfl) (by first | (exact hget k hkl) | (conv => lhs; whnf))) rfl rfl rfl ?_
                            refine AD.q rfl (OQ.move (by conv => lhs; whnf)) rfl rfl rfl ?_
                            refine AD.q rfl (OQ.fieldA (n := 1) (off := 2) (g := false) rfl (by kernel_rfl) (by decide)) rfl rfl rfl ?_
                            conv => (arg 10; try simp only [T.put, T.ev, putAt, setsT, newBlks, fillL, List.map, List.set, List.append, List.cons_append, List.nil_append, List.length, List.getElem?_cons_zero, List.getElem?_cons_succ, Nat.reduceAdd, Nat.reduceMul, Nat.zero_add, Nat.add_zero, Nat.mul_one, Nat.zero_mul, List.drop, List.take, List.toList_toArray, Value.cells, Int.reduceToNat, Int.toNat_natCast, List.getD, Option.getD, Option.map, flat, flat1, scal, if_true, ↓reduceIte])
                            refine AD.q rfl (OQ.load1 rfl (by kernel_rfl) (by first | (exact hget k hkl) | (conv => lhs; whnf))) rfl rfl rfl ?_
                            refine AD.q rfl (OQ.move (by conv => lhs; whnf)) rfl rfl rfl ?_
                            refine AD.q rfl (OQ.idxAddr (z := 5) (g := true) rfl rfl (by kernel_rfl) (by omega) (by omega)) rfl rfl rfl ?_
                            conv => (arg 10; try simp only [T.put, T.ev, putAt, setsT, newBlks, fillL, List.map, List.set, List.append, List.cons_append, List.nil_append, List.length, List.getElem?_cons_zero, List.getElem?_cons_succ, Nat.reduceAdd, Nat.reduceMul, Nat.zero_add, Nat.add_zero, Nat.mul_one, Nat.zero_mul, List.drop, List.take, List.toList_toArray, Value.cells, Int.reduceToNat, Int.toNat_natCast, List.getD, Option.getD, Option.map, flat, flat1, scal, if_true, ↓reduceIte])
                            refine AD.q rfl (OQ.fieldA (n := 1) (off := 4) (g := false) rfl (by kernel_rfl) (by decide)) rfl rfl rfl ?_
                            conv => (arg 10; try simp only [T.put, T.ev, putAt, setsT, newBlks, fillL, List.map, List.set, List.append, List.cons_append, List.nil_append, List.length, List.getElem?_cons_zero, List.getElem?_cons_succ, Nat.reduceAdd, Nat.reduceMul, Nat.zero_add, Nat.add_zero, Nat.mul_one, Nat.zero_mul, List.drop, List.take, List.toList_toArray, Value.cells, Int.reduceToNat, Int.toNat_natCast, List.getD, Option.getD, Option.map, flat, flat1, scal, if_true, ↓reduceIte])
                            refine AD.q rfl (OQ.load1 rfl (by kernel_rfl) (by first | (exact hget k hkl) | (conv => lhs; whnf))) rfl rfl rfl ?_
                            refine AD.q rfl (OQ.fieldA (n := 1) (off := 0) (g := false) rfl (by kernel_rfl) (by decide)) rfl rfl rfl ?_
                            conv => (arg 10; try simp only [T.put, T.ev, putAt, setsT, newBlks, fillL, List.map, List.set, List.append, List.cons_append, List.nil_append, List.length, List.getElem?_cons_zero, List.getElem?_cons_succ, Nat.reduceAdd, Nat.reduceMul, Nat.zero_add, Nat.add_zero, Nat.mul_one, Nat.zero_mul, List.drop, List.take, List.toList_toArray, Value.cells, Int.reduceToNat, Int.toNat_natCast, List.getD, Option.getD, Option.map, flat, flat1, scal, if_true, ↓reduceIte])
                            refine AD.q rfl (OQ.load1 rfl (by kernel_rfl) (by first | (exact hget k hkl) | (conv => lhs; whnf))) rfl rfl rfl ?_
                            first | refine AD.q rfl (OQ.addi rfl rfl (by omega)) rfl rfl rfl ?_ | refine AD.q rfl (OQ.add rfl rfl) rfl rfl rfl ?_
                            refine AD.q rfl (OQ.idxAddr (z := 5) (g := true) rfl rfl (by kernel_rfl) (by omega) (by omega)) rfl rfl rfl ?_
                            conv => (arg 10; try simp only [T.put, T.ev, putAt, setsT, newBlks, fillL, List.map, List.set, List.append, List.cons_append, List.nil_append, List.length, List.getElem?_cons_zero, List.getElem?_cons_succ, Nat.reduceAdd, Nat.reduceMul, Nat.zero_add, Nat.add_zero, Nat.mul_one, Nat.zero_mul, List.drop, List.take, List.toList_toArray, Value.cells, Int.reduceToNat, Int.toNat_natCast, List.getD, Option.getD, Option.map, flat, flat1, scal, if_true, ↓reduceIte])
                            refine AD.q rfl (OQ.fieldA (n := 1) (off := 4) (g := false) rfl (by kernel_rfl) (by decide)) rfl rfl rfl ?_
                            conv => (arg 10; try simp only [T.put, T.ev, putAt, setsT, newBlks, fillL, List.map, List.set, List.append, List.cons_append, List.nil_append, List.length, List.getElem?_cons_zero, List.getElem?_cons_succ, Nat.reduceAdd, Nat.reduceMul, Nat.zero_add, Nat.add_zero, Nat.mul_one, Nat.zero_mul, List.drop, List.take, List.toList_toArray, Value.cells, Int.reduceToNat, Int.toNat_natCast, List.getD, Option.getD, Option.map, flat, flat1, scal, if_true, ↓reduceIte])
                            refine AD.nil ?_
                            conv => (arg 5; try simp only [T.put, T.ev, putAt, setsT, newBlks, fillL, List.map, List.set, List.append, List.cons_append, List.nil_append, List.length, List.getElem?_cons_zero, List.getElem?_cons_succ, Nat.reduceAdd, Nat.reduceMul, Nat.zero_add, Nat.add_zero, Nat.mul_one, Nat.zero_mul, List.drop, List.take, List.toList_toArray, Value.cells, Int.reduceToNat, Int.toNat_natCast, List.getD, Option.getD, Option.map, flat, flat1, scal, if_true, ↓reduceIte])
                            conv => (arg 6; try simp only [T.put, T.ev, putAt, setsT, newBlks, fillL, List.map, List.set, List.append, List.cons_append, List.nil_append, List.length, List.getElem?_cons_zero, List.getElem?_cons_succ, Nat.reduceAdd, Nat.reduceMul, Nat.zero_add, Nat.add_zero, Nat.mul_one, Nat.zero_mul, List.drop, List.take, List.toList_toArray, Value.cells, Int.reduceToNat, Int.toNat_natCast, List.getD, Option.getD, Option.map, flat, flat1, scal, if_true, ↓reduceIte])
                            refine AL.w rfl (OW.store (n := 1) rfl (by conv => lhs; whnf) rfl rfl (by kernel_rfl) rfl rfl (by decide) rfl (by first | exact Nat.le_of_ble_eq_true rfl | ((show k * 5 + 4 + 1 ≤ (flatS (widTo we l k)).length; rw [flatS_len, widTo_len]; omega))) (by intro r h; cases h)) ?_
                            conv => (arg 5; try simp only [T.put, T.ev, putAt, setsT, newBlks, fillL, List.map, List.set, List.append, List.cons_append, List.nil_append, List.length, List.getElem?_cons_zero, List.getElem?_cons_succ, Nat.reduceAdd, Nat.reduceMul, Nat.zero_add, Nat.add_zero, Nat.mul_one, Nat.zero_mul, List.drop, List.take, List.toList_toArray, Value.cells, Int.reduceToNat, Int.toNat_natCast, List.getD, Option.getD, Option.map, flat, flat1, scal, if_true, ↓reduceIte])
                            conv => (arg 6; try simp only [T.put, T.ev, putAt, setsT, newBlks, fillL, List.map, List.set, List.append, List.cons_append, List.nil_append, List.length, List.getElem?_cons_zero, List.getElem?_cons_succ, Nat.reduceAdd, Nat.reduceMul, Nat.zero_add, Nat.add_zero, Nat.mul_one, Nat.zero_mul, List.drop, List.take, List.toList_toArray, Value.cells, Int.reduceToNat, Int.toNat_natCast, List.getD, Option.getD, Option.map, flat, flat1, scal, if_true, ↓reduceIte])
                            refine AL.nil ?_
                            refine InB.n ?_
                            refine Then.n ?_
                            refine AW.region ?_
                            refine AL.q rfl (OQ.move (by conv => lhs; whnf)) ?_
                            first | refine AL.q rfl (OQ.addi rfl rfl (by omega)) ?_ | refine AL.q rfl (OQ.add rfl rfl) ?_
                            refine AL.q rfl (OQ.assign (by conv => lhs; whnf)) ?_
                            conv => (arg 5; try simp only [T.put, T.ev, putAt, setsT, newBlks, fillL, List.map, List.set, List.append, List.cons_append, List.nil_append, List.length, List.getElem?_cons_zero, List.getElem?_cons_succ, Nat.reduceAdd, Nat.reduceMul, Nat.zero_add, Nat.add_zero, Nat.mul_one, Nat.zero_mul, List.drop, List.take, List.toList_toArray, Value.cells, Int.reduceToNat, Int.toNat_natCast, List.getD, Option.getD, Option.map, flat, flat1, scal, if_true, ↓reduceIte])
                            refine AL.nil ?_
                            refine Then.n ?_
                            exact ⟨_, _, _, (by omega : l.length - (k + 1) < l.length - k), Wk.forget [false, false, true, true, true, false, false, true, true, false, false, false, false, false, false, false, false, false, false, false, false, false, false, false, false, false, false, false, false, false, false, false, false, false, false, false, false, false, false, false, false, false, false, false, false, false, false, false, false, false, false, false, false, false, false, false, false, false, false, false, false, false, false, false, false, false, false, false, false, false, false, false, false, false, false, false, false, false, false, false, false, false, false, false, false, false, false, false, false, false, false, false, false, false, false, false, false, false, false, false, false, false, false, false, false, false, false, false, false, false, false, false, false, false, false, false, false, false, false, false, false, false, false, false, false, false, false, false, false, false, false, false, false, false, false, false, false, false, false, false, false, false, false] rfl, k + 1, rfl, hkl, rfl, by rw [← flatS_set hkl]⟩
                        · have hc6_ := hc6; (try simp only [decide_eq_true_eq, decide_eq_false_iff_not, Bool.not_true, Bool.not_false, Bool.not_eq_true', Bool.not_eq_false', Int.not_lt, Int.not_le, Classical.not_not, ne_eq] at hc6_)
                          first
                          | (exfalso; simp at hc6_; done)
                          | (exfalso; omega; done)
                          | skip
                            refine AW.exit ?_
                            refine Then.x ?_
                            refine Then.x ?_
                            refine InB.hit ?_
                            refine Then.n ?_
                            refine AW.seq ?_
                            refine AW.seq ?_
                            obtain rfl : k = l.length := by omega
                            rw [hwall]
                            refine AW.region ?_
                            refine AL.q rfl (OQ.loadN (n := 3) rfl (by kernel_rfl) (by kernel_rfl) (by first | (exact hget k hkl) | rfl)) ?_
                            refine AL.pcall rfl (by kernel_rfl) rfl (HE _ _ rfl) ?_
                            conv => (arg 5; try simp only [T.put, T.ev, putAt, setsT, newBlks, fillL, List.map, List.set, List.append, List.cons_append, List.nil_append, List.length, List.getElem?_cons_zero, List.getElem?_cons_succ, Nat.reduceAdd, Nat.reduceMul, Nat.zero_add, Nat.add_zero, Nat.mul_one, Nat.zero_mul, List.drop, List.take, List.toList_toArray, Value.cells, Int.reduceToNat, Int.toNat_natCast, List.getD, Option.getD, Option.map, flat, flat1, scal, if_true, ↓reduceIte])
                            refine AL.q rfl (OQ.neq rfl rfl) ?_
                            conv => (arg 5; try simp only [T.put, T.ev, putAt, setsT, newBlks, fillL, List.map, List.set, List.append, List.cons_append, List.nil_append, List.length, List.getElem?_cons_zero, List.getElem?_cons_succ, Nat.reduceAdd, Nat.reduceMul, Nat.zero_add, Nat.add_zero, Nat.mul_one, Nat.zero_mul, List.drop, List.take, List.toList_toArray, Value.cells, Int.reduceToNat, Int.toNat_natCast, List.getD, Option.getD, Option.map, flat, flat1, scal, if_true, ↓reduceIte])
                            refine AL.nil ?_
                            refine Then.n ?_
                            refine AW.cond rfl (fun hc7 => ?_) (fun hc7 => ?_)
                            · have hc7_ := hc7; (try simp only [decide_eq_true_eq, decide_eq_false_iff_not, Bool.not_true, Bool.not_false, Bool.not_eq_true', Bool.not_eq_false', Int.not_lt, Int.not_le, Classical.not_not, ne_eq] at hc7_)
                              first
                              | (exfalso; simp at hc7_; done)
                              | (exfalso; omega; done)
                              | skip
                                refine AW.seq ?_
                                refine AW.region ?_
                                refine AL.q rfl (OQ.assign (by conv => lhs; whnf)) ?_
                                conv => (arg 5; try simp only [T.put, T.ev, putAt, setsT, newBlks, fillL, List.map, List.set, List.append, List.cons_append, List.nil_append, List.length, List.getElem?_cons_zero, List.getElem?_cons_succ, Nat.reduceAdd, Nat.reduceMul, Nat.zero_add, Nat.add_zero, Nat.mul_one, Nat.zero_mul, List.drop, List.take, List.toList_toArray, Value.cells, Int.reduceToNat, Int.toNat_natCast, List.getD, Option.getD, Option.map, flat, flat1, scal, if_true, ↓reduceIte])
                                refine AL.nil ?_
                                refine Then.n ?_
                                refine AW.ret ?_
                                refine Then.r ?_
                                refine FinP.ret (.tmp (by conv => lhs; whnf) .nil) ?_ rfl
                                (try simp only [pack, List.drop, List.take])
                                all_goals (rfl)
                            · have hc7_ := hc7; (try simp only [decide_eq_true_eq, decide_eq_false_iff_not, Bool.not_true, Bool.not_false, Bool.not_eq_true', Bool.not_eq_false', Int.not_lt, Int.not_le, Classical.not_not, ne_eq] at hc7_)
                              first
                              | (exfalso; simp at hc7_; done)
                              | (exfalso; omega; done)
                              | skip
                                refine AW.skip ?_
                                refine Then.n ?_
                                refine AW.seq ?_
                                refine AW.region ?_
                                refine AL.q rfl (OQ.loadN (n := 3) rfl (by kernel_rfl) (by kernel_rfl) (by first | (exact hget k hkl) | rfl)) ?_
                                refine AL.acall rfl (by kernel_rfl) rfl ((by first | exact HC _ rfl | exact HC' _ _ rfl)) ?_
                                conv => (arg 5; try simp only [T.put, T.ev, putAt, setsT, newBlks, fillL, List.map, List.set, List.append, List.cons_append, List.nil_append, List.length, List.getElem?_cons_zero, List.getElem?_cons_succ, Nat.reduceAdd, Nat.reduceMul, Nat.zero_add, Nat.add_zero, Nat.mul_one, Nat.zero_mul, List.drop, List.take, List.toList_toArray, Value.cells, Int.reduceToNat, Int.toNat_natCast, List.getD, Option.getD, Option.map, flat, flat1, scal, if_true, ↓reduceIte])
                                conv => (arg 6; try simp only [T.put, T.ev, putAt, setsT, newBlks, fillL, List.map, List.set, List.append, List.cons_append, List.nil_append, List.length, List.getElem?_cons_zero, List.getElem?_cons_succ, Nat.reduceAdd, Nat.reduceMul, Nat.zero_add, Nat.add_zero, Nat.mul_one, Nat.zero_mul, List.drop, List.take, List.toList_toArray, Value.cells, Int.reduceToNat, Int.toNat_natCast, List.getD, Option.getD, Option.map, flat, flat1, scal, if_true, ↓reduceIte])
                                refine AL.q rfl (OQ.move (by conv => lhs; whnf)) ?_
                                refine AL.pcall rfl (by kernel_rfl) rfl ((by first | exact HB _ _ _ _ rfl | exact HB' _ _ _ _ rfl)) ?_
                                conv => (arg 5; try simp only [T.put, T.ev, putAt, setsT, newBlks, fillL, List.map, List.set, List.append, List.cons_append, List.nil_append, List.length, List.getElem?_cons_zero, List.getElem?_cons_succ, Nat.reduceAdd, Nat.reduceMul, Nat.zero_add, Nat.add_zero, Nat.mul_one, Nat.zero_mul, List.drop, List.take, List.toList_toArray, Value.cells, Int.reduceToNat, Int.toNat_natCast, List.getD, Option.getD, Option.map, flat, flat1, scal, if_true, ↓reduceIte])
                                refine AL.q rfl (OQ.move (by conv => lhs; whnf)) ?_
                                refine AL.q rfl (OQ.extract rfl rfl) ?_
                                refine AL.q rfl (OQ.extract rfl rfl) ?_
                                refine AL.w rfl (OW.alloc (z := [.int .i64 0, .int .i64 0, .int .i64 0, .int .i64 0, .int .i64 0, .int .i64 0]) (by kernel_rfl) rfl) ?_
                                conv => (arg 5; try simp only [T.put, T.ev, putAt, setsT, newBlks, fillL, List.map, List.set, List.append, List.cons_append, List.nil_append, List.length, List.getElem?_cons_zero, List.getElem?_cons_succ, Nat.reduceAdd, Nat.reduceMul, Nat.zero_add, Nat.add_zero, Nat.mul_one, Nat.zero_mul, List.drop, List.take, List.toList_toArray, Value.cells, Int.reduceToNat, Int.toNat_natCast, List.getD, Option.getD, Option.map, flat, flat1, scal, if_true, ↓reduceIte])
                                conv => (arg 6; try simp only [T.put, T.ev, putAt, setsT, newBlks, fillL, List.map, List.set, List.append, List.cons_append, List.nil_append, List.length, List.getElem?_cons_zero, List.getElem?_cons_succ, Nat.reduceAdd, Nat.reduceMul, Nat.zero_add, Nat.add_zero, Nat.mul_one, Nat.zero_mul, List.drop, List.take, List.toList_toArray, Value.cells, Int.reduceToNat, Int.toNat_natCast, List.getD, Option.getD, Option.map, flat, flat1, scal, if_true, ↓reduceIte])
                                refine AL.w rfl (OW.store (n := 6) rfl (by conv => lhs; whnf) rfl rfl (by kernel_rfl) rfl rfl (by decide) rfl (by first | exact Nat.le_of_ble_eq_true rfl | ((show k * 5 + 4 + 1 ≤ (flatS (widTo we l k)).length; rw [flatS_len, widTo_len]; omega))) (by intro r h; cases h)) ?_
                                conv => (arg 5; try simp only [T.put, T.ev, putAt, setsT, newBlks, fillL, List.map, List.set, List.append, List.cons_append, List.nil_append, List.length, List.getElem?_cons_zero, List.getElem?_cons_succ, Nat.reduceAdd, Nat.reduceMul, Nat.zero_add, Nat.add_zero, Nat.mul_one, Nat.zero_mul, List.drop, List.take, List.toList_toArray, Value.cells, Int.reduceToNat, Int.toNat_natCast, List.getD, Option.getD, Option.map, flat, flat1, scal, if_true, ↓reduceIte])
                                conv => (arg 6; try simp only [T.put, T.ev, putAt, setsT, newBlks, fillL, List.map, List.set, List.append, List.cons_append, List.nil_append, List.length, List.getElem?_cons_zero, List.getElem?_cons_succ, Nat.reduceAdd, Nat.reduceMul, Nat.zero_add, Nat.add_zero, Nat.mul_one, Nat.zero_mul, List.drop, List.take, List.toList_toArray, Value.cells, Int.reduceToNat, Int.toNat_natCast, List.getD, Option.getD, Option.map, flat, flat1, scal, if_true, ↓reduceIte])
                                refine AL.q rfl (OQ.assign (by conv => lhs; whnf)) ?_
                                conv => (arg 5; try simp only [T.put, T.ev, putAt, setsT, newBlks, fillL, List.map, List.set, List.append, List.cons_append, List.nil_append, List.length, List.getElem?_cons_zero, List.getElem?_cons_succ, Nat.reduceAdd, Nat.reduceMul, Nat.zero_add, Nat.add_zero, Nat.mul_one, Nat.zero_mul, List.drop, List.take, List.toList_toArray, Value.cells, Int.reduceToNat, Int.toNat_natCast, List.getD, Option.getD, Option.map, flat, flat1, scal, if_true, ↓reduceIte])
                                refine AL.nil ?_
                                refine Then.n ?_
                                refine AW.seq ?_
                                refine AW.region ?_
                                refine AL.q rfl (OQ.loadN (n := 3) rfl (by kernel_rfl) (by kernel_rfl) (by first | (exact hget k hkl) | rfl)) ?_
                                refine AL.acall rfl (by kernel_rfl) rfl ((by first | exact HC _ rfl | exact HC' _ _ rfl)) ?_
                                conv => (arg 5; try simp only [T.put, T.ev, putAt, setsT, newBlks, fillL, List.map, List.set, List.append, List.cons_append, List.nil_append, List.length, List.getElem?_cons_zero, List.getElem?_cons_succ, Nat.reduceAdd, Nat.reduceMul, Nat.zero_add, Nat.add_zero, Nat.mul_one, Nat.zero_mul, List.drop, List.take, List.toList_toArray, Value.cells, Int.reduceToNat, Int.toNat_natCast, List.getD, Option.getD, Option.map, flat, flat1, scal, if_true, ↓reduceIte])
                                conv => (arg 6; try simp only [T.put, T.ev, putAt, setsT, newBlks, fillL, List.map, List.set, List.append, List.cons_append, List.nil_append, List.length, List.getElem?_cons_zero, List.getElem?_cons_succ, Nat.reduceAdd, Nat.reduceMul, Nat.zero_add, Nat.add_zero, Nat.mul_one, Nat.zero_mul, List.drop, List.take, List.toList_toArray, Value.cells, Int.reduceToNat, Int.toNat_natCast, List.getD, Option.getD, Option.map, flat, flat1, scal, if_true, ↓reduceIte])
                                refine AL.q rfl (OQ.move (by conv => lhs; whnf)) ?_
                                refine AL.pcall rfl (by kernel_rfl) rfl ((by first | exact HB _ _ _ _ rfl | exact HB' _ _ _ _ rfl)) ?_
                                conv => (arg 5; try simp only [T.put, T.ev, putAt, setsT, newBlks, fillL, List.map, List.set, List.append, List.cons_append, List.nil_append, List.length, List.getElem?_cons_zero, List.getElem?_cons_succ, Nat.reduceAdd, Nat.reduceMul, Nat.zero_add, Nat.add_zero, Nat.mul_one, Nat.zero_mul, List.drop, List.take, List.toList_toArray, Value.cells, Int.reduceToNat, Int.toNat_natCast, List.getD, Option.getD, Option.map, flat, flat1, scal, if_true, ↓reduceIte])
                                refine AL.q rfl (OQ.move (by conv => lhs; whnf)) ?_
                                refine AL.q rfl (OQ.extract rfl rfl) ?_
                                refine AL.q rfl (OQ.extract rfl rfl) ?_
                                refine AL.w rfl (OW.alloc (z := [.int .i64 0, .int .i64 0, .int .i64 0, .int .i64 0, .int .i64 0, .int .i64 0]) (by kernel_rfl) rfl) ?_
                                conv => (arg 5; try simp only [T.put, T.ev, putAt, setsT, newBlks, fillL, List.map, List.set, List.append, List.cons_append, List.nil_append, List.length, List.getElem?_cons_zero, List.getElem?_cons_succ, Nat.reduceAdd, Nat.reduceMul, Nat.zero_add, Nat.add_zero, Nat.mul_one, Nat.zero_mul, List.drop, List.take, List.toList_toArray, Value.cells, Int.reduceToNat, Int.toNat_natCast, List.getD, Option.getD, Option.map, flat, flat1, scal, if_true, ↓reduceIte])
                                conv => (arg 6; try simp only [T.put, T.ev, putAt, setsT, newBlks, fillL, List.map, List.set, List.append, List.cons_append, List.nil_append, List.length, List.getElem?_cons_zero, List.getElem?_cons_succ, Nat.reduceAdd, Nat.reduceMul, Nat.zero_add, Nat.add_zero, Nat.mul_one, Nat.zero_mul, List.drop, List.take, List.toList_toArray, Value.cells, Int.reduceToNat, Int.toNat_natCast, List.getD, Option.getD, Option.map, flat, flat1, scal, if_true, ↓reduceIte])
                                refine AL.w rfl (OW.store (n := 6) rfl (by conv => lhs; whnf) rfl rfl (by kernel_rfl) rfl rfl (by decide) rfl (by first | exact Nat.le_of_ble_eq_true rfl | ((show k * 5 + 4 + 1 ≤ (flatS (widTo we l k)).length; rw [flatS_len, widTo_len]; omega))) (by intro r h; cases h)) ?_
                                conv => (arg 5; try simp only [T.put, T.ev, putAt, setsT, newBlks, fillL, List.map, List.set, List.append, List.cons_append, List.nil_append, List.length, List.getElem?_cons_zero, List.getElem?_cons_succ, Nat.reduceAdd, Nat.reduceMul, Nat.zero_add, Nat.add_zero, Nat.mul_one, Nat.zero_mul, List.drop, List.take, List.toList_toArray, Value.cells, Int.reduceToNat, Int.toNat_natCast, List.getD, Option.getD, Option.map, flat, flat1, scal, if_true, ↓reduceIte])
                                conv => (arg 6; try simp only [T.put, T.ev, putAt, setsT, newBlks, fillL, List.map, List.set, List.append, List.cons_append, List.nil_append, List.length, List.getElem?_cons_zero, List.getElem?_cons_succ, Nat.reduceAdd, Nat.reduceMul, Nat.zero_add, Nat.add_zero, Nat.mul_one, Nat.zero_mul, List.drop, List.take, List.toList_toArray, Value.cells, Int.reduceToNat, Int.toNat_natCast, List.getD, Option.getD, Option.map, flat, flat1, scal, if_true, ↓reduceIte])
                                refine AL.q rfl (OQ.assign (by conv => lhs; whnf)) ?_
                                conv => (arg 5; try simp only [T.put, T.ev, putAt, setsT, newBlks, fillL, List.map, List.set, List.append, List.cons_append, List.nil_append, List.length, List.getElem?_cons_zero, List.getElem?_cons_succ, Nat.reduceAdd, Nat.reduceMul, Nat.zero_add, Nat.add_zero, Nat.mul_one, Nat.zero_mul, List.drop, List.take, List.toList_toArray, Value.cells, Int.reduceToNat, Int.toNat_natCast, List.getD, Option.getD, Option.map, flat, flat1, scal, if_true, ↓reduceIte])
                                refine AL.nil ?_
                                refine Then.n ?_
                                refine AW.seq ?_
                                refine AW.region ?_
                                refine AL.q rfl (OQ.loadN (n := 3) rfl (by kernel_rfl) (by kernel_rfl) (by first | (exact hget k hkl) | rfl)) ?_
                                refine AL.acall rfl (by kernel_rfl) rfl ((by first | exact HC _ rfl | exact HC' _ _ rfl)) ?_
                                conv => (arg 5; try simp only [T.put, T.ev, putAt, setsT, newBlks, fillL, List.map, List.set, List.append, List.cons_append, List.nil_append, List.length, List.getElem?_cons_zero, List.getElem?_cons_succ, Nat.reduceAdd, Nat.reduceMul, Nat.zero_add, Nat.add_zero, Nat.mul_one, Nat.zero_mul, List.drop, List.take, List.toList_toArray, Value.cells, Int.reduceToNat, Int.toNat_natCast, List.getD, Option.getD, Option.map, flat, flat1, scal, if_true, ↓reduceIte])
                                conv => (arg 6; try simp only [T.put, T.ev, putAt, setsT, newBlks, fillL, List.map, List.set, List.append, List.cons_append, List.nil_append, List.length, List.getElem?_cons_zero, List.getElem?_cons_succ, Nat.reduceAdd, Nat.reduceMul, Nat.zero_add, Nat.add_zero, Nat.mul_one, Nat.zero_mul, List.drop, List.take, List.toList_toArray, Value.cells, Int.reduceToNat, Int.toNat_natCast, List.getD, Option.getD, Option.map, flat, flat1, scal, if_true, ↓reduceIte])
                                refine AL.q rfl (OQ.move (by conv => lhs; whnf)) ?_
                                refine AL.pcall rfl (by kernel_rfl) rfl ((by first | exact HN _ _ _ _ rfl | exact HN' _ _ _ _ rfl)) ?_
                                conv => (arg 5; try simp only [T.put, T.ev, putAt, setsT, newBlks, fillL, List.map, List.set, List.append, List.cons_append, List.nil_append, List.length, List.getElem?_cons_zero, List.getElem?_cons_succ, Nat.reduceAdd, Nat.reduceMul, Nat.zero_add, Nat.add_zero, Nat.mul_one, Nat.zero_mul, List.drop, List.take, List.toList_toArray, Value.cells, Int.reduceToNat, Int.toNat_natCast, List.getD, Option.getD, Option.map, flat, flat1, scal, if_true, ↓reduceIte])
                                refine AL.q rfl (OQ.move (by conv => lhs; whnf)) ?_
                                refine AL.q rfl (OQ.extract rfl rfl) ?_
                                refine AL.q rfl (OQ.extract rfl rfl) ?_
                                refine AL.w rfl (OW.alloc (z := [.int .i64 0, .int .i64 0, .int .i64 0]) (by kernel_rfl) rfl) ?_
                                conv => (arg 5; try simp only [T.put, T.ev, putAt, setsT, newBlks, fillL, List.map, List.set, List.append, List.cons_append, List.nil_append, List.length, List.getElem?_cons_zero, List.getElem?_cons_succ, Nat.reduceAdd, Nat.reduceMul, Nat.zero_add, Nat.add_zero, Nat.mul_one, Nat.zero_mul, List.drop, List.take, List.toList_toArray, Value.cells, Int.reduceToNat, Int.toNat_natCast, List.getD, Option.getD, Option.map, flat, flat1, scal, if_true, ↓reduceIte])
                                conv => (arg 6; try simp only [T.put, T.ev, putAt, setsT, newBlks, fillL, List.map, List.set, List.append, List.cons_append, List.nil_append, List.length, List.getElem?_cons_zero, List.getElem?_cons_succ, Nat.reduceAdd, Nat.reduceMul, Nat.zero_add, Nat.add_zero, Nat.mul_one, Nat.zero_mul, List.drop, List.take, List.toList_toArray, Value.cells, Int.reduceToNat, Int.toNat_natCast, List.getD, Option.getD, Option.map, flat, flat1, scal, if_true, ↓reduceIte])
                                refine AL.w rfl (OW.store (n := 3) rfl (by conv => lhs; whnf) rfl rfl (by kernel_rfl) rfl rfl (by decide) rfl (by first | exact Nat.le_of_ble_eq_true rfl | ((show k * 5 + 4 + 1 ≤ (flatS (widTo we l k)).length; rw [flatS_len, widTo_len]; omega))) (by intro r h; cases h)) ?_
                                conv => (arg 5; try simp only [T.put, T.ev, putAt, setsT, newBlks, fillL, List.map, List.set, List.append, List.cons_append, List.nil_append, List.length, List.getElem?_cons_zero, List.getElem?_cons_succ, Nat.reduceAdd, Nat.reduceMul, Nat.zero_add, Nat.add_zero, Nat.mul_one, Nat.zero_mul, List.drop, List.take, List.toList_toArray, Value.cells, Int.reduceToNat, Int.toNat_natCast, List.getD, Option.getD, Option.map, flat, flat1, scal, if_true, ↓reduceIte])
                                conv => (arg 6; try simp only [T.put, T.ev, putAt, setsT, newBlks, fillL, List.map, List.set, List.append, List.cons_append, List.nil_append, List.length, List.getElem?_cons_zero, List.getElem?_cons_succ, Nat.reduceAdd, Nat.reduceMul, Nat.zero_add, Nat.add_zero, Nat.mul_one, Nat.zero_mul, List.drop, List.take, List.toList_toArray, Value.cells, Int.reduceToNat, Int.toNat_natCast, List.getD, Option.getD, Option.map, flat, flat1, scal, if_true, ↓reduceIte])
                                refine AL.q rfl (OQ.assign (by conv => lhs; whnf)) ?_
                                conv => (arg 5; try simp only [T.put, T.ev, putAt, setsT, newBlks, fillL, List.map, List.set, List.append, List.cons_append, List.nil_append, List.length, List.getElem?_cons_zero, List.getElem?_cons_succ, Nat.reduceAdd, Nat.reduceMul, Nat.zero_add, Nat.add_zero, Nat.mul_one, Nat.zero_mul, List.drop, List.take, List.toList_toArray, Value.cells, Int.reduceToNat, Int.toNat_natCast, List.getD, Option.getD, Option.map, flat, flat1, scal, if_true, ↓reduceIte])
                                refine AL.nil ?_
                                refine Then.n ?_
                                refine AW.seq ?_
                                refine AW.region ?_
                                refine AL.q rfl (OQ.loadN (n := 3) rfl (by kernel_rfl) (by kernel_rfl) (by first | (exact hget k hkl) | rfl)) ?_
                                refine AL.q rfl (OQ.move (by conv => lhs; whnf)) ?_
                                refine AL.pcall rfl (by kernel_rfl) rfl ((by first | exact HN _ _ _ _ rfl | exact HN' _ _ _ _ rfl)) ?_
                                conv => (arg 5; try simp only [T.put, T.ev, putAt, setsT, newBlks, fillL, List.map, List.set, List.append, List.cons_append, List.nil_append, List.length, List.getElem?_cons_zero, List.getElem?_cons_succ, Nat.reduceAdd, Nat.reduceMul, Nat.zero_add, Nat.add_zero, Nat.mul_one, Nat.zero_mul, List.drop, List.take, List.toList_toArray, Value.cells, Int.reduceToNat, Int.toNat_natCast, List.getD, Option.getD, Option.map, flat, flat1, scal, if_true, ↓reduceIte])
                                refine AL.q rfl (OQ.move (by conv => lhs; whnf)) ?_
                                refine AL.q rfl (OQ.extract rfl rfl) ?_
                                refine AL.q rfl (OQ.extract rfl rfl) ?_
                                refine AL.w rfl (OW.alloc (z := [.int .i64 0, .int .i64 0, .int .i64 0]) (by kernel_rfl) rfl) ?_
                                conv => (arg 5; try simp only [T.put, T.ev, putAt, setsT, newBlks, fillL, List.map, List.set, List.append, List.cons_append, List.nil_append, List.length, List.getElem?_cons_zero, List.getElem?_cons_succ, Nat.reduceAdd, Nat.reduceMul, Nat.zero_add, Nat.add_zero, Nat.mul_one, Nat.zero_mul, List.drop, List.take, List.toList_toArray, Value.cells, Int.reduceToNat, Int.toNat_natCast, List.getD, Option.getD, Option.map, flat, flat1, scal, if_true, ↓reduceIte])
                                conv => (arg 6; try simp only [T.put, T.ev, putAt, setsT, newBlks, fillL, List.map, List.set, List.append, List.cons_append, List.nil_append, List.length, List.getElem?_cons_zero, List.getElem?_cons_succ, Nat.reduceAdd, Nat.reduceMul, Nat.zero_add, Nat.add_zero, Nat.mul_one, Nat.zero_mul, List.drop, List.take, List.toList_toArray, Value.cells, Int.reduceToNat, Int.toNat_natCast, List.getD, Option.getD, Option.map, flat, flat1, scal, if_true, ↓reduceIte])
                                refine AL.w rfl (OW.store (n := 3) rfl (by conv => lhs; whnf) rfl rfl (by kernel_rfl) rfl rfl (by decide) rfl (by first | exact Nat.le_of_ble_eq_true rfl | ((show k * 5 + 4 + 1 ≤ (flatS (widTo we l k)).length; rw [flatS_len, widTo_len]; omega))) (by intro r h; cases h)) ?_
                                conv => (arg 5; try simp only [T.put, T.ev, putAt, setsT, newBlks, fillL, List.map, List.set, List.append, List.cons_append, List.nil_append, List.length, List.getElem?_cons_zero, List.getElem?_cons_succ, Nat.reduceAdd, Nat.reduceMul, Nat.zero_add, Nat.add_zero, Nat.mul_one, Nat.zero_mul, List.drop, List.take, List.toList_toArray, Value.cells, Int.reduceToNat, Int.toNat_natCast, List.getD, Option.getD, Option.map, flat, flat1, scal, if_true, ↓reduceIte])
                                conv => (arg 6; try simp only [T.put, T.ev, putAt, setsT, newBlks, fillL, List.map, List.set, List.append, List.cons_append, List.nil_append, List.length, List.getElem?_cons_zero, List.getElem?_cons_succ, Nat.reduceAdd, Nat.reduceMul, Nat.zero_add, Nat.add_zero, Nat.mul_one, Nat.zero_mul, List.drop, List.take, List.toList_toArray, Value.cells, Int.reduceToNat, Int.toNat_natCast, List.getD, Option.getD, Option.map, flat, flat1, scal, if_true, ↓reduceIte])
                                refine AL.q rfl (OQ.assign (by conv => lhs; whnf)) ?_
                                conv => (arg 5; try simp only [T.put, T.ev, putAt, setsT, newBlks, fillL, List.map, List.set, List.append, List.cons_append, List.nil_append, List.length, List.getElem?_cons_zero, List.getElem?_cons_succ, Nat.reduceAdd, Nat.reduceMul, Nat.zero_add, Nat.add_zero, Nat.mul_one, Nat.zero_mul, List.drop, List.take, List.toList_toArray, Value.cells, Int.reduceToNat, Int.toNat_natCast, List.getD, Option.getD, Option.map, flat, flat1, scal, if_true, ↓reduceIte])
                                refine AL.nil ?_
                                refine Then.n ?_
                                refine AW.seq ?_
                                refine AW.seq ?_
                                refine AW.region ?_
                                refine AL.q rfl (OQ.move (by conv => lhs; whnf)) ?_
                                refine AL.q rfl (OQ.neq rfl rfl) ?_
                                refine AL.q rfl (OQ.move (by conv => lhs; whnf)) ?_
                                refine AL.gcase rfl rfl (fun hg8 => ?_) (fun hg8 => ?_)
                                · have hg8_ := hg8; (try simp only [decide_eq_true_eq, decide_eq_false_iff_not, Bool.not_true, Bool.not_false, Bool.not_eq_true', Bool.not_eq_false', Int.not_lt, Int.not_le, Classical.not_not, ne_eq] at hg8_)
                                  first
                                  | (exfalso; simp at hg8_; done)
                                  | (exfalso; omega; done)
                                  | skip
                                    refine AL.q rfl (OQ.move (by conv => lhs; whnf)) ?_
                                    refine AL.gyes rfl rfl hg8 ?_
                                    refine AL.q rfl (OQ.neq rfl rfl) ?_
                                    refine AL.q rfl (OQ.pickF rfl hg8 (by conv => lhs; whnf)) ?_
                                    conv => (arg 5; try simp only [T.put, T.ev, putAt, setsT, newBlks, fillL, List.map, List.set, List.append, List.cons_append, List.nil_append, List.length, List.getElem?_cons_zero, List.getElem?_cons_succ, Nat.reduceAdd, Nat.reduceMul, Nat.zero_add, Nat.add_zero, Nat.mul_one, Nat.zero_mul, List.drop, List.take, List.toList_toArray, Value.cells, Int.reduceToNat, Int.toNat_natCast, List.getD, Option.getD, Option.map, flat, flat1, scal, if_true, ↓reduceIte])
                                    refine AL.q rfl (OQ.move (by conv => lhs; whnf)) ?_
                                    refine AL.gcase rfl rfl (fun hg9 => ?_) (fun hg9 => ?_)
                                    · have hg9_ := hg9; (try simp only [decide_eq_true_eq, decide_eq_false_iff_not, Bool.not_true, Bool.not_false, Bool.not_eq_true', Bool.not_eq_false', Int.not_lt, Int.not_le, Classical.not_not, ne_eq] at hg9_)
                                      first
                                      | (exfalso; simp at hg9_; done)
                                      | (exfalso; omega; done)
                                      | skip
                                        refine AL.q rfl (OQ.move (by conv => lhs; whnf)) ?_
                                        refine AL.gyes rfl rfl hg9 ?_
                                        refine AL.q rfl (OQ.neq rfl rfl) ?_
                                        refine AL.q rfl (OQ.pickF rfl hg9 (by conv => lhs; whnf)) ?_
                                        refine AL.q rfl (OQ.move (by conv => lhs; whnf)) ?_
                                        refine AL.gcase rfl rfl (fun hg10 => ?_) (fun hg10 => ?_)
                                        · have hg10_ := hg10; (try simp only [decide_eq_true_eq, decide_eq_false_iff_not, Bool.not_true, Bool.not_false, Bool.not_eq_true', Bool.not_eq_false', Int.not_lt, Int.not_le, Classical.not_not, ne_eq] at hg10_)
                                          first
                                          | (exfalso; simp at hg10_; done)
                                          | (exfalso; omega; done)
                                          | skip
                                            refine AL.q rfl (OQ.move (by conv => lhs; whnf)) ?_
                                            refine AL.gyes rfl rfl hg10 ?_
                                            refine AL.q rfl (OQ.neq rfl rfl) ?_
                                            conv => (arg 5; try simp only [T.put, T.ev, putAt, setsT, newBlks, fillL, List.map, List.set, List.append, List.cons_append, List.nil_append, List.length, List.getElem?_cons_zero, List.getElem?_cons_succ, Nat.reduceAdd, Nat.reduceMul, Nat.zero_add, Nat.add_zero, Nat.mul_one, Nat.zero_mul, List.drop, List.take, List.toList_toArray, Value.cells, Int.reduceToNat, Int.toNat_natCast, List.getD, Option.getD, Option.map, flat, flat1, scal, if_true, ↓reduceIte])
                                            refine AL.q rfl (OQ.pickF rfl hg10 (by conv => lhs; whnf)) ?_
                                            refine AL.q rfl (OQ.move (by conv => lhs; whnf)) ?_
                                            refine AL.gcase rfl rfl (fun hg11 => ?_) (fun hg11 => ?_)
                                            · have hg11_ := hg11; (try simp only [decide_eq_true_eq, decide_eq_false_iff_not, Bool.not_true, Bool.not_false, Bool.not_eq_true', Bool.not_eq_false', Int.not_lt, Int.not_le, Classical.not_not, ne_eq] at hg11_)
                                              first
                                              | (exfalso; simp at hg11_; done)
                                              | (exfalso; omega; done)
                                              | skip
                                                refine AL.q rfl (OQ.loadN (n := 3) rfl (by kernel_rfl) (by kernel_rfl) (by first | (exact hget k hkl) | rfl)) ?_
                                                refine AL.gyes rfl rfl hg11 ?_
                                                refine AL.q rfl (OQ.loadN (n := 3) rfl (by kernel_rfl) (by kernel_rfl) (by first | (exact hget k hkl) | rfl)) ?_
                                                refine AL.gyes rfl rfl hg11 ?_
                                                refine AL.q rfl (ne_place rfl rfl) ?_
                                                refine AL.q rfl (OQ.pickF rfl hg11 (by conv => lhs; whnf)) ?_
                                                conv => (arg 5; try simp only [T.put, T.ev, putAt, setsT, newBlks, fillL, List.map, List.set, List.append, List.cons_append, List.nil_append, List.length, List.getElem?_cons_zero, List.getElem?_cons_succ, Nat.reduceAdd, Nat.reduceMul, Nat.zero_add, Nat.add_zero, Nat.mul_one, Nat.zero_mul, List.drop, List.take, List.toList_toArray, Value.cells, Int.reduceToNat, Int.toNat_natCast, List.getD, Option.getD, Option.map, flat, flat1, scal, if_true, ↓reduceIte])
                                                refine AL.nil ?_
                                                refine Then.n ?_
                                                refine AW.cond rfl (fun hc12 => ?_) (fun hc12 => ?_)
                                                · have hc12_ := hc12; (try simp only [decide_eq_true_eq, decide_eq_false_iff_not, Bool.not_true, Bool.not_false, Bool.not_eq_true', Bool.not_eq_false', Int.not_lt, Int.not_le, Classical.not_not, ne_eq] at hc12_)
                                                  first
                                                  | (exfalso; simp at hc12_; done)
                                                  | (exfalso; omega; done)
                                                  | skip
                                                    refine AW.seq ?_
                                                    refine AW.region ?_
                                                    refine AL.q rfl (OQ.assign (by conv => lhs; whnf)) ?_
                                                    conv => (arg 5; try simp only [T.put, T.ev, putAt, setsT, newBlks, fillL, List.map, List.set, List.append, List.cons_append, List.nil_append, List.length, List.getElem?_cons_zero, List.getElem?_cons_succ, Nat.reduceAdd, Nat.reduceMul, Nat.zero_add, Nat.add_zero, Nat.mul_one, Nat.zero_mul, List.drop, List.take, List.toList_toArray, Value.cells, Int.reduceToNat, Int.toNat_natCast, List.getD, Option.getD, Option.map, flat, flat1, scal, if_true, ↓reduceIte])
                                                    refine AL.nil ?_
                                                    refine Then.n ?_
                                                    refine AW.ret ?_
                                                    refine Then.r ?_
                                                    refine FinP.ret (.tmp (by conv => lhs; whnf) .nil) ?_ rfl
                                                    (try simp only [pack, List.drop, List.take])
                                                    all_goals (rfl)
                                                · have hc12_ := hc12; (try simp only [decide_eq_true_eq, decide_eq_false_iff_not, Bool.not_true, Bool.not_false, Bool.not_eq_true', Bool.not_eq_false', Int.not_lt, Int.not_le, Classical.not_not, ne_eq] at hc12_)
                                                  first
                                                  | (exfalso; simp at hc12_; done)
                                                  | (exfalso; omega; done)
                                                  | skip
                                                    refine AW.skip ?_
                                                    refine Then.n ?_
                                                    refine AW.seq ?_
                                                    refine AW.seq ?_
                                                    refine AW.region ?_
                                                    refine AL.q rfl (OQ.assign (by conv => lhs; whnf)) ?_
                                                    conv => (arg 5; try simp only [T.put, T.ev, putAt, setsT, newBlks, fillL, List.map, List.set, List.append, List.cons_append, List.nil_append, List.length, List.getElem?_cons_zero, List.getElem?_cons_succ, Nat.reduceAdd, Nat.reduceMul, Nat.zero_add, Nat.add_zero, Nat.mul_one, Nat.zero_mul, List.drop, List.take, List.toList_toArray, Value.cells, Int.reduceToNat, Int.toNat_natCast, List.getD, Option.getD, Option.map, flat, flat1, scal, if_true, ↓reduceIte])
                                                    refine AL.nil ?_
                                                    refine Then.n ?_
                                                    refine AW.block ?_
                                                    refine AW.unroll 4 ?_
                                                    refine AR.s ?_
                                                    refine AW.seq ?_
                                                    refine AW.seq ?_
                                                    refine AW.region ?_
                                                    refine AL.q rfl (OQ.move (by conv => lhs; whnf)) ?_
                                                    refine AL.q rfl (OQ.lss rfl rfl) ?_
                                                    conv => (arg 5; try simp only [T.put, T.ev, putAt, setsT, newBlks, fillL, List.map, List.set, List.append, List.cons_append, List.nil_append, List.length, List.getElem?_cons_zero, List.getElem?_cons_succ, Nat.reduceAdd, Nat.reduceMul, Nat.zero_add, Nat.add_zero, Nat.mul_one, Nat.zero_mul, List.drop, List.take, List.toList_toArray, Value.cells, Int.reduceToNat, Int.toNat_natCast, List.getD, Option.getD, Option.map, flat, flat1, scal, if_true, ↓reduceIte])
                                                    refine AL.nil ?_
                                                    refine Then.n ?_
                                                    refine AW.cond rfl (fun hc13 => ?_) (fun hc13 => ?_)
                                                    · have hc13_ := hc13; (try simp only [decide_eq_true_eq, decide_eq_false_iff_not, Bool.not_true, Bool.not_false, Bool.not_eq_true', Bool.not_eq_false', Int.not_lt, Int.not_le, Classical.not_not, ne_eq] at hc13_)
                                                      first
                                                      | (exfalso; simp at hc13_; done)
                                                      | (exfalso; omega; done)
                                                      | skip
                                                        refine AW.skip ?_
                                                        refine Then.n ?_
                                                        refine AW.seq ?_
                                                        refine AW.block ?_
                                                        refine AW.seq ?_
                                                        refine AW.draw 20 #[0, 1, 3, 7, 0, 16, 48, 112, 255, 511, 1023, 2047, 4095, 8191, 1023, 17407, 50175, 115711, 262143, 524287] (by kernel_rfl) (by kernel_rfl) ?_
                                                        refine AD.q rfl (OQ.move (by conv => lhs; whnf)) rfl rfl rfl ?_
                                                        refine AD.q rfl (OQ.idxPtr (n := 2) (l := 3) (g := true) rfl rfl (by kernel_rfl) (by omega) (by omega)) rfl rfl rfl ?_
                                                        conv => (arg 10; try simp only [T.put, T.ev, putAt, setsT, newBlks, fillL, List.map, List.set, List.append, List.cons_append, List.nil_append, List.length, List.getElem?_cons_zero, List.getElem?_cons_succ, Nat.reduceAdd, Nat.reduceMul, Nat.zero_add, Nat.add_zero, Nat.mul_one, Nat.zero_mul, List.drop, List.take, List.toList_toArray, Value.cells, Int.reduceToNat, Int.toNat_natCast, List.getD, Option.getD, Option.map, flat, flat1, scal, if_true, ↓reduceIte])
                                                        refine AD.q rfl (OQ.fieldA (n := 1) (off := 0) (g := false) rfl (by kernel_rfl) (by decide)) rfl rfl rfl ?_
                                                        conv => (arg 10; try simp only [T.put, T.ev, putAt, setsT, newBlks, fillL, List.map, List.set, List.append, List.cons_append, List.nil_append, List.length, List.getElem?_cons_zero, List.getElem?_cons_succ, Nat.reduceAdd, Nat.reduceMul, Nat.zero_add, Nat.add_zero, Nat.mul_one, Nat.zero_mul, List.drop, List.take, List.toList_toArray, Value.cells, Int.reduceToNat, Int.toNat_natCast, List.getD, Option.getD, Option.map, flat, flat1, scal, if_true, ↓reduceIte])
                                                        refine AD.q rfl (OQ.load1 rfl (by kernel_rfl) (by first | (exact hget k hkl) | (conv => lhs; whnf))) rfl rfl rfl ?_
                                                        refine AD.q rfl (OQ.move (by conv => lhs; whnf)) rfl rfl rfl ?_
                                                        refine AD.q rfl (OQ.idxPtr (n := 2) (l := 3) (g := true) rfl rfl (by kernel_rfl) (by omega) (by omega)) rfl rfl rfl ?_
                                                        conv => (arg 10; try simp only [T.put, T.ev, putAt, setsT, newBlks, fillL, List.map, List.set, List.append, List.cons_append, List.nil_append, List.length, List.getElem?_cons_zero, List.getElem?_cons_succ, Nat.reduceAdd, Nat.reduceMul, Nat.zero_add, Nat.add_zero, Nat.mul_one, Nat.zero_mul, List.drop, List.take, List.toList_toArray, Value.cells, Int.reduceToNat, Int.toNat_natCast, List.getD, Option.getD, Option.map, flat, flat1, scal, if_true, ↓reduceIte])
                                                        refine AD.q rfl (OQ.fieldA (n := 1) (off := 0) (g := false) rfl (by kernel_rfl) (by decide)) rfl rfl rfl ?_
                                                        conv => (arg 10; try simp only [T.put, T.ev, putAt, setsT, newBlks, fillL, List.map, List.set, List.append, List.cons_append, List.nil_append, List.length, List.getElem?_cons_zero, List.getElem?_cons_succ, Nat.reduceAdd, Nat.reduceMul, Nat.zero_add, Nat.add_zero, Nat.mul_one, Nat.zero_mul, List.drop, List.take, List.toList_toArray, Value.cells, Int.reduceToNat, Int.toNat_natCast, List.getD, Option.getD, Option.map, flat, flat1, scal, if_true, ↓reduceIte])
                                                        refine AD.q rfl (OQ.load1 rfl (by kernel_rfl) (by first | (exact hget k hkl) | (conv => lhs; whnf))) rfl rfl rfl ?_
                                                        refine AD.q rfl (OQ.gtr rfl rfl) rfl rfl rfl ?_
                                                        refine AD.q rfl (OQ.move (by conv => lhs; whnf)) rfl rfl rfl ?_
                                                        refine AD.gcase rfl rfl (fun hg14 => ?_) (fun hg14 => ?_)
                                                        · have hg14_ := hg14; (try simp only [decide_eq_true_eq, decide_eq_false_iff_not, Bool.not_true, Bool.not_false, Bool.not_eq_true', Bool.not_eq_false', Int.not_lt, Int.not_le, Classical.not_not, ne_eq] at hg14_)
                                                          first
                                                          | (exfalso; simp at hg14_; done)
                                                          | (exfalso; omega; done)
                                                          | skip
                                                            refine AD.qc rfl rfl hg14 (OQ.move (by conv => lhs; whnf)) rfl rfl rfl ?_
                                                            refine AD.qc rfl rfl hg14 (OQ.idxPtr (n := 2) (l := 3) (g := true) rfl rfl (by kernel_rfl) (by omega) (by omega)) rfl rfl rfl ?_
                                                            conv => (arg 10; try simp only [T.put, T.ev, putAt, setsT, newBlks, fillL, List.map, List.set, List.append, List.cons_append, List.nil_append, List.length, List.getElem?_cons_zero, List.getElem?_cons_succ, Nat.reduceAdd, Nat.reduceMul, Nat.zero_add, Nat.add_zero, Nat.mul_one, Nat.zero_mul, List.drop, List.take, List.toList_toArray, Value.cells, Int.reduceToNat, Int.toNat_natCast, List.getD, Option.getD, Option.map, flat, flat1, scal, if_true, ↓reduceIte])
                                                            refine AD.qc rfl rfl hg14 (OQ.fieldA (n := 1) (off := 1) (g := false) rfl (by kernel_rfl) (by decide)) rfl rfl rfl ?_
                                                            conv => (arg 10; try simp only [T.put, T.ev, putAt, setsT, newBlks, fillL, List.map, List.set, List.append, List.cons_append, List.nil_append, List.length, List.getElem?_cons_zero, List.getElem?_cons_succ, Nat.reduceAdd, Nat.reduceMul, Nat.zero_add, Nat.add_zero, Nat.mul_one, Nat.zero_mul, List.drop, List.take, List.toList_toArray, Value.cells, Int.reduceToNat, Int.toNat_natCast, List.getD, Option.getD, Option.map, flat, flat1, scal, if_true, ↓reduceIte])
                                                            refine AD.qc rfl rfl hg14 (OQ.load1 rfl (by kernel_rfl) (by first | (exact hget k hkl) | (conv => lhs; whnf))) rfl rfl rfl ?_
                                                            refine AD.qc rfl rfl hg14 (OQ.move (by conv => lhs; whnf)) rfl rfl rfl ?_
                                                            refine AD.qc rfl rfl hg14 (OQ.idxPtr (n := 2) (l := 3) (g := true) rfl rfl (by kernel_rfl) (by omega) (by omega)) rfl rfl rfl ?_
                                                            conv => (arg 10; try simp only [T.put, T.ev, putAt, setsT, newBlks, fillL, List.map, List.set, List.append, List.cons_append, List.nil_append, List.length, List.getElem?_cons_zero, List.getElem?_cons_succ, Nat.reduceAdd, Nat.reduceMul, Nat.zero_add, Nat.add_zero, Nat.mul_one, Nat.zero_mul, List.drop, List.take, List.toList_toArray, Value.cells, Int.reduceToNat, Int.toNat_natCast, List.getD, Option.getD, Option.map, flat, flat1, scal, if_true, ↓reduceIte])
                                                            refine AD.qc rfl rfl hg14 (OQ.fieldA (n := 1) (off := 1) (g := false) rfl (by kernel_rfl) (by decide)) rfl rfl rfl ?_
                                                            conv => (arg 10; try simp only [T.put, T.ev, putAt, setsT, newBlks, fillL, List.map, List.set, List.append, List.cons_append, List.nil_append, List.length, List.getElem?_cons_zero, List.getElem?_cons_succ, Nat.reduceAdd, Nat.reduceMul, Nat.zero_add, Nat.add_zero, Nat.mul_one, Nat.zero_mul, List.drop, List.take, List.toList_toArray, Value.cells, Int.reduceToNat, Int.toNat_natCast, List.getD, Option.getD, Option.map, flat, flat1, scal, if_true, ↓reduceIte])
                                                            refine AD.qc rfl rfl hg14 (OQ.load1 rfl (by kernel_rfl) (by first | (exact hget k hkl) | (conv => lhs; whnf))) rfl rfl rfl ?_
                                                            refine AD.qc rfl rfl hg14 (OQ.lss rfl rfl) rfl rfl rfl ?_
                                                            refine AD.q rfl (OQ.pickF rfl hg14 (by conv => lhs; whnf)) rfl rfl rfl ?_
                                                            conv => (arg 10; try simp only [T.put, T.ev, putAt, setsT, newBlks, fillL, List.map, List.set, List.append, List.cons_append, List.nil_append, List.length, List.getElem?_cons_zero, List.getElem?_cons_succ, Nat.reduceAdd, Nat.reduceMul, Nat.zero_add, Nat.add_zero, Nat.mul_one, Nat.zero_mul, List.drop, List.take, List.toList_toArray, Value.cells, Int.reduceToNat, Int.toNat_natCast, List.getD, Option.getD, Option.map, flat, flat1, scal, if_true, ↓reduceIte])
                                                            refine AD.nil ?_
                                                            conv => (arg 5; try simp only [T.put, T.ev, putAt, setsT, newBlks, fillL, List.map, List.set, List.append, List.cons_append, List.nil_append, List.length, List.getElem?_cons_zero, List.getElem?_cons_succ, Nat.reduceAdd, Nat.reduceMul, Nat.zero_add, Nat.add_zero, Nat.mul_one, Nat.zero_mul, List.drop, List.take, List.toList_toArray, Value.cells, Int.reduceToNat, Int.toNat_natCast, List.getD, Option.getD, Option.map, flat, flat1, scal, if_true, ↓reduceIte])
                                                            conv => (arg 6; try simp only [T.put, T.ev, putAt, setsT, newBlks, fillL, List.map, List.set, List.append, List.cons_append, List.nil_append, List.length, List.getElem?_cons_zero, List.getElem?_cons_succ, Nat.reduceAdd, Nat.reduceMul, Nat.zero_add, Nat.add_zero, Nat.mul_one, Nat.zero_mul, List.drop, List.take, List.toList_toArray, Value.cells, Int.reduceToNat, Int.toNat_natCast, List.getD, Option.getD, Option.map, flat, flat1, scal, if_true, ↓reduceIte])
                                                            conv => (arg 5; try simp only [T.put, T.ev, putAt, setsT, newBlks, fillL, List.map, List.set, List.append, List.cons_append, List.nil_append, List.length, List.getElem?_cons_zero, List.getElem?_cons_succ, Nat.reduceAdd, Nat.reduceMul, Nat.zero_add, Nat.add_zero, Nat.mul_one, Nat.zero_mul, List.drop, List.take, List.toList_toArray, Value.cells, Int.reduceToNat, Int.toNat_natCast, List.getD, Option.getD, Option.map, flat, flat1, scal, if_true, ↓reduceIte])
                                                            refine AL.nil ?_
                                                            refine Then.n ?_
                                                            refine AW.cond rfl (fun hc15 => ?_) (fun hc15 => ?_)
                                                            · have hc15_ := hc15; (try simp only [decide_eq_true_eq, decide_eq_false_iff_not, Bool.not_true, Bool.not_false, Bool.not_eq_true', Bool.not_eq_false', Int.not_lt, Int.not_le, Classical.not_not, ne_eq] at hc15_)
                                                              first
                                                              | (exfalso; simp at hc15_; done)
                                                              | (exfalso; omega; done)
                                                              | skip
                                                                refine AW.seq ?_
                                                                refine AW.region ?_
                                                                refine AL.q rfl (OQ.assign (by conv => lhs; whnf)) ?_
                                                                conv => (arg 5; try simp only [T.put, T.ev, putAt, setsT, newBlks, fillL, List.map, List.set, List.append, List.cons_append, List.nil_append, List.length, List.getElem?_cons_zero, List.getElem?_cons_succ, Nat.reduceAdd, Nat.reduceMul, Nat.zero_add, Nat.add_zero, Nat.mul_one, Nat.zero_mul, List.drop, List.take, List.toList_toArray, Value.cells, Int.reduceToNat, Int.toNat_natCast, List.getD, Option.getD, Option.map, flat, flat1, scal, if_true, ↓reduceIte])
                                                                refine AL.nil ?_
                                                                refine Then.n ?_
                                                                refine AW.ret ?_
                                                                refine InB.r ?_
                                                                refine Then.r ?_
                                                                refine Then.r ?_
                                                                refine InB.r ?_
                                                                refine Then.r ?_
                                                                refine FinP.ret (.tmp (by conv => lhs; whnf) .nil) ?_ rfl
                                                                (try simp only [pack, List.drop, List.take])
                                                                all_goals (rfl)
                                                            · have hc15_ := hc15; (try simp only [decide_eq_true_eq, decide_eq_false_iff_not, Bool.not_true, Bool.not_false, Bool.not_eq_true', Bool.not_eq_false', Int.not_lt, Int.not_le, Classical.not_not, ne_eq] at hc15_)
                                                              first
                                                              | (exfalso; simp at hc15_; done)
                                                              | (exfalso; omega; done)
                                                              | skip
                                                                refine AW.skip ?_
                                                                refine InB.n ?_
                                                                refine Then.n ?_
                                                                refine AW.region ?_
                                                                refine AL.q rfl (OQ.move (by conv => lhs; whnf)) ?_
                                                                first | refine AL.q rfl (OQ.addi rfl rfl (by omega)) ?_ | refine AL.q rfl (OQ.add rfl rfl) ?_
                                                                refine AL.q rfl (OQ.assign (by conv => lhs; whnf)) ?_
                                                                conv => (arg 5; try simp only [T.put, T.ev, putAt, setsT, newBlks, fillL, List.map, List.set, List.append, List.cons_append, List.nil_append, List.length, List.getElem?_cons_zero, List.getElem?_cons_succ, Nat.reduceAdd, Nat.reduceMul, Nat.zero_add, Nat.add_zero, Nat.mul_one, Nat.zero_mul, List.drop, List.take, List.toList_toArray, Value.cells, Int.reduceToNat, Int.toNat_natCast, List.getD, Option.getD, Option.map, flat, flat1, scal, if_true, ↓reduceIte])
                                                                refine AL.nil ?_
                                                                refine Then.n ?_
                                                                refine AR.s ?_
                                                                refine AW.seq ?_
                                                                refine AW.seq ?_
                                                                refine AW.region ?_
                                                                refine AL.q rfl (OQ.move (by conv => lhs; whnf)) ?_
                                                                conv => (arg 5; try simp only [T.put, T.ev, putAt, setsT, newBlks, fillL, List.map, List.set, List.append, List.cons_append, List.nil_append, List.length, List.getElem?_cons_zero, List.getElem?_cons_succ, Nat.reduceAdd, Nat.reduceMul, Nat.zero_add, Nat.add_zero, Nat.mul_one, Nat.zero_mul, List.drop, List.take, List.toList_toArray, Value.cells, Int.reduceToNat, Int.toNat_natCast, List.getD, Option.getD, Option.map, flat, flat1, scal, if_true, ↓reduceIte])
                                                                refine AL.q rfl (OQ.lss rfl rfl) ?_
                                                                conv => (arg 5; try simp only [T.put, T.ev, putAt, setsT, newBlks, fillL, List.map, List.set, List.append, List.cons_append, List.nil_append, List.length, List.getElem?_cons_zero, List.getElem?_cons_succ, Nat.reduceAdd, Nat.reduceMul, Nat.zero_add, Nat.add_zero, Nat.mul_one, Nat.zero_mul, List.drop, List.take, List.toList_toArray, Value.cells, Int.reduceToNat, Int.toNat_natCast, List.getD, Option.getD, Option.map, flat, flat1, scal, if_true, ↓reduceIte])
                                                                refine AL.nil ?_
                                                                refine Then.n ?_
                                                                refine AW.cond rfl (fun hc16 => ?_) (fun hc16 => ?_)
                                                                · have hc16_ := hc16; (try simp only [decide_eq_true_eq, decide_eq_false_iff_not, Bool.not_true, Bool.not_false, Bool.not_eq_true', Bool.not_eq_false', Int.not_lt, Int.not_le, Classical.not_not, ne_eq] at hc16_)
                                                                  first
                                                                  | (exfalso; simp at hc16_; done)
                                                                  | (exfalso; omega; done)
                                                                  | skip
                                                                    refine AW.skip ?_
                                                                    refine Then.n ?_
                                                                    refine AW.seq ?_
                                                                    refine AW.block ?_
                                                                    refine AW.seq ?_
                                                                    refine AW.draw 20 #[0, 1, 3, 7, 0, 16, 48, 112, 255, 511, 1023, 2047, 4095, 8191, 1023, 17407, 50175, 115711, 262143, 524287] (by kernel_rfl) (by kernel_rfl) ?_
                                                                    refine AD.q rfl (OQ.move (by conv => lhs; whnf)) rfl rfl rfl ?_
                                                                    refine AD.q rfl (OQ.idxPtr (n := 2) (l := 3) (g := true) rfl rfl (by kernel_rfl) (by omega) (by omega)) rfl rfl rfl ?_
                                                                    conv => (arg 10; try simp only [T.put, T.ev, putAt, setsT, newBlks, fillL, List.map, List.set, List.append, List.cons_append, List.nil_append, List.length, List.getElem?_cons_zero, List.getElem?_cons_succ, Nat.reduceAdd, Nat.reduceMul, Nat.zero_add, Nat.add_zero, Nat.mul_one, Nat.zero_mul, List.drop, List.take, List.toList_toArray, Value.cells, Int.reduceToNat, Int.toNat_natCast, List.getD, Option.getD, Option.map, flat, flat1, scal, if_true, ↓reduceIte])
                                                                    refine AD.q rfl (OQ.fieldA (n := 1) (off := 0) (g := false) rfl (by kernel_rfl) (by decide)) rfl rfl rfl ?_
                                                                    conv => (arg 10; try simp only [T.put, T.ev, putAt, setsT, newBlks, fillL, List.map, List.set, List.append, List.cons_append, List.nil_append, List.length, List.getElem?_cons_zero, List.getElem?_cons_succ, Nat.reduceAdd, Nat.reduceMul, Nat.zero_add, Nat.add_zero, Nat.mul_one, Nat.zero_mul, List.drop, List.take, List.toList_toArray, Value.cells, Int.reduceToNat, Int.toNat_natCast, List.getD, Option.getD, Option.map, flat, flat1, scal, if_true, ↓reduceIte])
                                                                    refine AD.q rfl (OQ.load1 rfl (by kernel_rfl) (by first | (exact hget k hkl) | (conv => lhs; whnf))) rfl rfl rfl ?_
                                                                    refine AD.q rfl (OQ.move (by conv => lhs; whnf)) rfl rfl rfl ?_
                                                                    refine AD.q rfl (OQ.idxPtr (n := 2) (l := 3) (g := true) rfl rfl (by kernel_rfl) (by omega) (by omega)) rfl rfl rfl ?_
                                                                    conv => (arg 10; try simp only [T.put, T.ev, putAt, setsT, newBlks, fillL, List.map, List.set, List.append, List.cons_append, List.nil_append, List.length, List.getElem?_cons_zero, List.getElem?_cons_succ, Nat.reduceAdd, Nat.reduceMul, Nat.zero_add, Nat.add_zero, Nat.mul_one, Nat.zero_mul, List.drop, List.take, List.toList_toArray, Value.cells, Int.reduceToNat, Int.toNat_natCast, List.getD, Option.getD, Option.map, flat, flat1, scal, if_true, ↓reduceIte])
                                                                    refine AD.q rfl (OQ.fieldA (n := 1) (off := 0) (g := false) rfl (by kernel_rfl) (by decide)) rfl rfl rfl ?_
                                                                    conv => (arg 10; try simp only [T.put, T.ev, putAt, setsT, newBlks, fillL, List.map, List.set, List.append, List.cons_append, List.nil_append, List.length, List.getElem?_cons_zero, List.getElem?_cons_succ, Nat.reduceAdd, Nat.reduceMul, Nat.zero_add, Nat.add_zero, Nat.mul_one, Nat.zero_mul, List.drop, List.take, List.toList_toArray, Value.cells, Int.reduceToNat, Int.toNat_natCast, List.getD, Option.getD, Option.map, flat, flat1, scal, if_true, ↓reduceIte])
                                                                    refine AD.q rfl (OQ.load1 rfl (by kernel_rfl) (by first | (exact hget k hkl) | (conv => lhs; whnf))) rfl rfl rfl ?_
                                                                    refine AD.q rfl (OQ.gtr rfl rfl) rfl rfl rfl ?_
                                                                    refine AD.q rfl (OQ.move (by conv => lhs; whnf)) rfl rfl rfl ?_
                                                                    refine AD.gcase rfl rfl (fun hg17 => ?_) (fun hg17 => ?_)
                                                                    · have hg17_ := hg17; (try simp only [decide_eq_true_eq, decide_eq_false_iff_not, Bool.not_true, Bool.not_false, Bool.not_eq_true', Bool.not_eq_false', Int.not_lt, Int.not_le, Classical.not_not, ne_eq] at hg17_)
                                                                      first
                                                                      | (exfalso; simp at hg17_; done)
                                                                      | (exfalso; omega; done)
                                                                      | skip
                                                                        refine AD.qc rfl rfl hg17 (OQ.move (by conv => lhs; whnf)) rfl rfl rfl ?_
                                                                        refine AD.qc rfl rfl hg17 (OQ.idxPtr (n := 2) (l := 3) (g := true) rfl rfl (by kernel_rfl) (by omega) (by omega)) rfl rfl rfl ?_
                                                                        conv => (arg 10; try simp only [T.put, T.ev, putAt, setsT, newBlks, fillL, List.map, List.set, List.append, List.cons_append, List.nil_append, List.length, List.getElem?_cons_zero, List.getElem?_cons_succ, Nat.reduceAdd, Nat.reduceMul, Nat.zero_add, Nat.add_zero, Nat.mul_one, Nat.zero_mul, List.drop, List.take, List.toList_toArray, Value.cells, Int.reduceToNat, Int.toNat_natCast, List.getD, Option.getD, Option.map, flat, flat1, scal, if_true, ↓reduceIte])
                                                                        refine AD.qc rfl rfl hg17 (OQ.fieldA (n := 1) (off := 1) (g := false) rfl (by kernel_rfl) (by decide)) rfl rfl rfl ?_
                                                                        conv => (arg 10; try simp only [T.put, T.ev, putAt, setsT, newBlks, fillL, List.map, List.set, List.append, List.cons_append, List.nil_append, List.length, List.getElem?_cons_zero, List.getElem?_cons_succ, Nat.reduceAdd, Nat.reduceMul, Nat.zero_add, Nat.add_zero, Nat.mul_one, Nat.zero_mul, List.drop, List.take, List.toList_toArray, Value.cells, Int.reduceToNat, Int.toNat_natCast, List.getD, Option.getD, Option.map, flat, flat1, scal, if_true, ↓reduceIte])
                                                                        refine AD.qc rfl rfl hg17 (OQ.load1 rfl (by kernel_rfl) (by first | (exact hget k hkl) | (conv => lhs; whnf))) rfl rfl rfl ?_
                                                                        refine AD.qc rfl rfl hg17 (OQ.move (by conv => lhs; whnf)) rfl rfl rfl ?_
                                                                        refine AD.qc rfl rfl hg17 (OQ.idxPtr (n := 2) (l := 3) (g := true) rfl rfl (by kernel_rfl) (by omega) (by omega)) rfl rfl rfl ?_
                                                                        conv => (arg 10; try simp only [T.put, T.ev, putAt, setsT, newBlks, fillL, List.map, List.set, List.append, List.cons_append, List.nil_append, List.length, List.getElem?_cons_zero, List.getElem?_cons_succ, Nat.reduceAdd, Nat.reduceMul, Nat.zero_add, Nat.add_zero, Nat.mul_one, Nat.zero_mul, List.drop, List.take, List.toList_toArray, Value.cells, Int.reduceToNat, Int.toNat_natCast, List.getD, Option.getD, Option.map, flat, flat1, scal, if_true, ↓reduceIte])
                                                                        refine AD.qc rfl rfl hg17 (OQ.fieldA (n := 1) (off := 1) (g := false) rfl (by kernel_rfl) (by decide)) rfl rfl rfl ?_
                                                                        conv => (arg 10; try simp only [T.put, T.ev, putAt, setsT, newBlks, fillL, List.map, List.set, List.append, List.cons_append, List.nil_append, List.length, List.getElem?_cons_zero, List.getElem?_cons_succ, Nat.reduceAdd, Nat.reduceMul, Nat.zero_add, Nat.add_zero, Nat.mul_one, Nat.zero_mul, List.drop, List.take, List.toList_toArray, Value.cells, Int.reduceToNat, Int.toNat_natCast, List.getD, Option.getD, Option.map, flat, flat1, scal, if_true, ↓reduceIte])
                                                                        refine AD.qc rfl rfl hg17 (OQ.load1 rfl (by kernel_rfl) (by first | (exact hget k hkl) | (conv => lhs; whnf))) rfl rfl rfl ?_
                                                                        refine AD.qc rfl rfl hg17 (OQ.lss rfl rfl) rfl rfl rfl ?_
                                                                        refine AD.q rfl (OQ.pickF rfl hg17 (by conv => lhs; whnf)) rfl rfl rfl ?_
                                                                        conv => (arg 10; try simp only [T.put, T.ev, putAt, setsT, newBlks, fillL, List.map, List.set, List.append, List.cons_append, List.nil_append, List.length, List.getElem?_cons_zero, List.getElem?_cons_succ, Nat.reduceAdd, Nat.reduceMul, Nat.zero_add, Nat.add_zero, Nat.mul_one, Nat.zero_mul, List.drop, List.take, List.toList_toArray, Value.cells, Int.reduceToNat, Int.toNat_natCast, List.getD, Option.getD, Option.map, flat, flat1, scal, if_true, ↓reduceIte])
                                                                        refine AD.nil ?_
                                                                        conv => (arg 5; try simp only [T.put, T.ev, putAt, setsT, newBlks, fillL, List.map, List.set, List.append, List.cons_append, List.nil_append, List.length, List.getElem?_cons_zero, List.getElem?_cons_succ, Nat.reduceAdd, Nat.reduceMul, Nat.zero_add, Nat.add_zero, Nat.mul_one, Nat.zero_mul, List.drop, List.take, List.toList_toArray, Value.cells, Int.reduceToNat, Int.toNat_natCast, List.getD, Option.getD, Option.map, flat, flat1, scal, if_true, ↓reduceIte])
                                                                        conv => (arg 6; try simp only [T.put, T.ev, putAt, setsT, newBlks, fillL, List.map, List.set, List.append, List.cons_append, List.nil_append, List.length, List.getElem?_cons_zero, List.getElem?_cons_succ, Nat.reduceAdd, Nat.reduceMul, Nat.zero_add, Nat.add_zero, Nat.mul_one, Nat.zero_mul, List.drop, List.take, List.toList_toArray, Value.cells, Int.reduceToNat, Int.toNat_natCast, List.getD, Option.getD, Option.map, flat, flat1, scal, if_true, ↓reduceIte])
                                                                        conv => (arg 5; try simp only [T.put, T.ev, putAt, setsT, newBlks, fillL, List.map, List.set, List.append, List.cons_append, List.nil_append, List.length, List.getElem?_cons_zero, List.getElem?_cons_succ, Nat.reduceAdd, Nat.reduceMul, Nat.zero_add, Nat.add_zero, Nat.mul_one, Nat.zero_mul, List.drop, List.take, List.toList_toArray, Value.cells, Int.reduceToNat, Int.toNat_natCast, List.getD, Option.getD, Option.map, flat, flat1, scal, if_true, ↓reduceIte])
                                                                        refine AL.nil ?_
                                                                        refine Then.n ?_
                                                                        refine AW.cond rfl (fun hc18 => ?_) (fun hc18 => ?_)
                                                                        · have hc18_ := hc18; (try simp only [decide_eq_true_eq, decide_eq_false_iff_not, Bool.not_true, Bool.not_false, Bool.not_eq_true', Bool.not_eq_false', Int.not_lt, Int.not_le, Classical.not_not, ne_eq] at hc18_)
                                                                          first
                                                                          | (exfalso; simp at hc18_; done)
                                                                          | (exfalso; omega; done)
                                                                          | skip
                                                                            refine AW.seq ?_
                                                                            refine AW.region ?_
                                                                            refine AL.q rfl (OQ.assign (by conv => lhs; whnf)) ?_
                                                                            conv => (arg 5; try simp only [T.put, T.ev, putAt, setsT, newBlks, fillL, List.map, List.set, List.append, List.cons_append, List.nil_append, List.length, List.getElem?_cons_zero, List.getElem?_cons_succ, Nat.reduceAdd, Nat.reduceMul, Nat.zero_add, Nat.add_zero, Nat.mul_one, Nat.zero_mul, List.drop, List.take, List.toList_toArray, Value.cells, Int.reduceToNat, Int.toNat_natCast, List.getD, Option.getD, Option.map, flat, flat1, scal, if_true, ↓reduceIte])
                                                                            refine AL.nil ?_
                                                                            refine Then.n ?_
                                                                            refine AW.ret ?_
                                                                            refine InB.r ?_
                                                                            refine Then.r ?_
                                                                            refine Then.r ?_
                                                                            refine InB.r ?_
                                                                            refine Then.r ?_
                                                                            refine FinP.ret (.tmp (by conv => lhs; whnf) .nil) ?_ rfl
                                                                            (try simp only [pack, List.drop, List.take])
                                                                            all_goals (rfl)
                                                                        · have hc18_ := hc18; (try simp only [decide_eq_true_eq, decide_eq_false_iff_not, Bool.not_true, Bool.not_false, Bool.not_eq_true', Bool.not_eq_false', Int.not_lt, Int.not_le, Classical.not_not, ne_eq] at hc18_)
                                                                          first
                                                                          | (exfalso; simp at hc18_; done)
                                                                          | (exfalso; omega; done)
                                                                          | skip
                                                                            refine AW.skip ?_
                                                                            refine InB.n ?_
                                                                            refine Then.n ?_
                                                                            refine AW.region ?_
                                                                            refine AL.q rfl (OQ.move (by conv => lhs; whnf)) ?_
                                                                            first | refine AL.q rfl (OQ.addi rfl rfl (by omega)) ?_ | refine AL.q rfl (OQ.add rfl rfl) ?_
                                                                            refine AL.q rfl (OQ.assign (by conv => lhs; whnf)) ?_
                                                                            conv => (arg 5; try simp only [T.put, T.ev, putAt, setsT, newBlks, fillL, List.map, List.set, List.append, List.cons_append, List.nil_append, List.length, List.getElem?_cons_zero, List.getElem?_cons_succ, Nat.reduceAdd, Nat.reduceMul, Nat.zero_add, Nat.add_zero, Nat.mul_one, Nat.zero_mul, List.drop, List.take, List.toList_toArray, Value.cells, Int.reduceToNat, Int.toNat_natCast, List.getD, Option.getD, Option.map, flat, flat1, scal, if_true, ↓reduceIte])
                                                                            refine AL.nil ?_
                                                                            refine Then.n ?_
                                                                            refine AR.s ?_
                                                                            refine AW.seq ?_
                                                                            refine AW.seq ?_
                                                                            refine AW.region ?_
                                                                            refine AL.q rfl (OQ.move (by conv => lhs; whnf)) ?_
                                                                            conv => (arg 5; try simp only [T.put, T.ev, putAt, setsT, newBlks, fillL, List.map, List.set, List.append, List.cons_append, List.nil_append, List.length, List.getElem?_cons_zero, List.getElem?_cons_succ, Nat.reduceAdd, Nat.reduceMul, Nat.zero_add, Nat.add_zero, Nat.mul_one, Nat.zero_mul, List.drop, List.take, List.toList_toArray, Value.cells, Int.reduceToNat, Int.toNat_natCast, List.getD, Option.getD, Option.map, flat, flat1, scal, if_true, ↓reduceIte])
                                                                            refine AL.q rfl (OQ.lss rfl rfl) ?_
                                                                            conv => (arg 5; try simp only [T.put, T.ev, putAt, setsT, newBlks, fillL, List.map, List.set, List.append, List.cons_append, List.nil_append, List.length, List.getElem?_cons_zero, List.getElem?_cons_succ, Nat.reduceAdd, Nat.reduceMul, Nat.zero_add, Nat.add_zero, Nat.mul_one, Nat.zero_mul, List.drop, List.take, List.toList_toArray, Value.cells, Int.reduceToNat, Int.toNat_natCast, List.getD, Option.getD, Option.map, flat, flat1, scal, if_true, ↓reduceIte])
                                                                            refine AL.nil ?_
                                                                            refine Then.n ?_
                                                                            refine AW.cond rfl (fun hc19 => ?_) (fun hc19 => ?_)
                                                                            · have hc19_ := hc19; (try simp only [decide_eq_true_eq, decide_eq_false_iff_not, Bool.not_true, Bool.not_false, Bool.not_eq_true', Bool.not_eq_false', Int.not_lt, Int.not_le, Classical.not_not, ne_eq] at hc19_)
                                                                              first
                                                                              | (exfalso; simp at hc19_; done)
                                                                              | (exfalso; omega; done)
                                                                              | skip
                                                                                refine AW.skip ?_
                                                                                refine Then.n ?_
                                                                                refine AW.seq ?_
                                                                                refine AW.block ?_
                                                                                refine AW.seq ?_
                                                                                refine AW.draw 20 #[0, 1, 3, 7, 0, 16, 48, 112, 255, 511, 1023, 2047, 4095, 8191, 1023, 17407, 50175, 115711, 262143, 524287] (by kernel_rfl) (by kernel_rfl) ?_
                                                                                refine AD.q rfl (OQ.move (by conv => lhs; whnf)) rfl rfl rfl ?_
                                                                                refine AD.q rfl (OQ.idxPtr (n := 2) (l := 3) (g := true) rfl rfl (by kernel_rfl) (by omega) (by omega)) rfl rfl rfl ?_
                                                                                conv => (arg 10; try simp only [T.put, T.ev, putAt, setsT, newBlks, fillL, List.map, List.set, List.append, List.cons_append, List.nil_append, List.length, List.getElem?_cons_zero, List.getElem?_cons_succ, Nat.reduceAdd, Nat.reduceMul, Nat.zero_add, Nat.add_zero, Nat.mul_one, Nat.zero_mul, List.drop, List.take, List.toList_toArray, Value.cells, Int.reduceToNat, Int.toNat_natCast, List.getD, Option.getD, Option.map, flat, flat1, scal, if_true, ↓reduceIte])
                                                                                refine AD.q rfl (OQ.fieldA (n := 1) (off := 0) (g := false) rfl (by kernel_rfl) (by decide)) rfl rfl rfl ?_
                                                                                conv => (arg 10; try simp only [T.put, T.ev, putAt, setsT, newBlks, fillL, List.map, List.set, List.append, List.cons_append, List.nil_append, List.length, List.getElem?_cons_zero, List.getElem?_cons_succ, Nat.reduceAdd, Nat.reduceMul, Nat.zero_add, Nat.add_zero, Nat.mul_one, Nat.zero_mul, List.drop, List.take, List.toList_toArray, Value.cells, Int.reduceToNat, Int.toNat_natCast, List.getD, Option.getD, Option.map, flat, flat1, scal, if_true, ↓reduceIte])
                                                                                refine AD.q rfl (OQ.load1 rfl (by kernel_rfl) (by first | (exact hget k hkl) | (conv => lhs; whnf))) rfl rfl rfl ?_
                                                                                refine AD.q rfl (OQ.move (by conv => lhs; whnf)) rfl rfl rfl ?_
                                                                                refine AD.q rfl (OQ.idxPtr (n := 2) (l := 3) (g := true) rfl rfl (by kernel_rfl) (by omega) (by omega)) rfl rfl rfl ?_
                                                                                conv => (arg 10; try simp only [T.put, T.ev, putAt, setsT, newBlks, fillL, List.map, List.set, List.append, List.cons_append, List.nil_append, List.length, List.getElem?_cons_zero, List.getElem?_cons_succ, Nat.reduceAdd, Nat.reduceMul, Nat.zero_add, Nat.add_zero, Nat.mul_one, Nat.zero_mul, List.drop, List.take, List.toList_toArray, Value.cells, Int.reduceToNat, Int.toNat_natCast, List.getD, Option.getD, Option.map, flat, flat1, scal, if_true, ↓reduceIte])
                                                                                refine AD.q rfl (OQ.fieldA (n := 1) (off := 0) (g := false) rfl (by kernel_rfl) (by decide)) rfl rfl rfl ?_
                                                                                conv => (arg 10; try simp only [T.put, T.ev, putAt, setsT, newBlks, fillL, List.map, List.set, List.append, List.cons_append, List.nil_append, List.length, List.getElem?_cons_zero, List.getElem?_cons_succ, Nat.reduceAdd, Nat.reduceMul, Nat.zero_add, Nat.add_zero, Nat.mul_one, Nat.zero_mul, List.drop, List.take, List.toList_toArray, Value.cells, Int.reduceToNat, Int.toNat_natCast, List.getD, Option.getD, Option.map, flat, flat1, scal, if_true, ↓reduceIte])
                                                                                refine AD.q rfl (OQ.load1 rfl (by kernel_rfl) (by first | (exact hget k hkl) | (conv => lhs; whnf))) rfl rfl rfl ?_
                                                                                refine AD.q rfl (OQ.gtr rfl rfl) rfl rfl rfl ?_
                                                                                refine AD.q rfl (OQ.move (by conv => lhs; whnf)) rfl rfl rfl ?_
                                                                                refine AD.gcase rfl rfl (fun hg20 => ?_) (fun hg20 => ?_)
                                                                                · have hg20_ := hg20; (try simp only [decide_eq_true_eq, decide_eq_false_iff_not, Bool.not_true, Bool.not_false, Bool.not_eq_true', Bool.not_eq_false', Int.not_lt, Int.not_le, Classical.not_not, ne_eq] at hg20_)
                                                                                  first
                                                                                  | (exfalso; simp at hg20_; done)
                                                                                  | (exfalso; omega; done)
                                                                                  | skip
                                                                                    refine AD.qc rfl rfl hg20 (OQ.move (by conv => lhs; whnf)) rfl rfl rfl ?_
                                                                                    refine AD.qc rfl rfl hg20 (OQ.idxPtr (n := 2) (l := 3) (g := true) rfl rfl (by kernel_rfl) (by omega) (by omega)) rfl rfl rfl ?_
                                                                                    conv => (arg 10; try simp only [T.put, T.ev, putAt, setsT, newBlks, fillL, List.map, List.set, List.append, List.cons_append, List.nil_append, List.length, List.getElem?_cons_zero, List.getElem?_cons_succ, Nat.reduceAdd, Nat.reduceMul, Nat.zero_add, Nat.add_zero, Nat.mul_one, Nat.zero_mul, List.drop, List.take, List.toList_toArray, Value.cells, Int.reduceToNat, Int.toNat_natCast, List.getD, Option.getD, Option.map, flat, flat1, scal, if_true, ↓reduceIte])
                                                                                    refine AD.qc rfl rfl hg20 (OQ.fieldA (n := 1) (off := 1) (g := false) rfl (by kernel_rfl) (by decide)) rfl rfl rfl ?_
                                                                                    conv => (arg 10; try simp only [T.put, T.ev, putAt, setsT, newBlks, fillL, List.map, List.set, List.append, List.cons_append, List.nil_append, List.length, List.getElem?_cons_zero, List.getElem?_cons_succ, Nat.reduceAdd, Nat.reduceMul, Nat.zero_add, Nat.add_zero, Nat.mul_one, Nat.zero_mul, List.drop, List.take, List.toList_toArray, Value.cells, Int.reduceToNat, Int.toNat_natCast, List.getD, Option.getD, Option.map, flat, flat1, scal, if_true, ↓reduceIte])
                                                                                    refine AD.qc rfl rfl hg20 (OQ.load1 rfl (by kernel_rfl) (by first | (exact hget k hkl) | (conv => lhs; whnf))) rfl rfl rfl ?_
                                                                                    refine AD.qc rfl rfl hg20 (OQ.move (by conv => lhs; whnf)) rfl rfl rfl ?_
                                                                                    refine AD.qc rfl rfl hg20 (OQ.idxPtr (n := 2) (l := 3) (g := true) rfl rfl (by kernel_rfl) (by omega) (by omega)) rfl rfl rfl ?_
                                                                                    conv => (arg 10; try simp only [T.put, T.ev, putAt, setsT, newBlks, fillL, List.map, List.set, List.append, List.cons_append, List.nil_append, List.length, List.getElem?_cons_zero, List.getElem?_cons_succ, Nat.reduceAdd, Nat.reduceMul, Nat.zero_add, Nat.add_zero, Nat.mul_one, Nat.zero_mul, List.drop, List.take, List.toList_toArray, Value.cells, Int.reduceToNat, Int.toNat_natCast, List.getD, Option.getD, Option.map, flat, flat1, scal, if_true, ↓reduceIte])
                                                                                    refine AD.qc rfl rfl hg20 (OQ.fieldA (n := 1) (off := 1) (g := false) rfl (by kernel_rfl) (by decide)) rfl rfl rfl ?_
                                                                                    conv => (arg 10; try simp only [T.put, T.ev, putAt, setsT, newBlks, fillL, List.map, List.set, List.append, List.cons_append, List.nil_append, List.length, List.getElem?_cons_zero, List.getElem?_cons_succ, Nat.reduceAdd, Nat.reduceMul, Nat.zero_add, Nat.add_zero, Nat.mul_one, Nat.zero_mul, List.drop, List.take, List.toList_toArray, Value.cells, Int.reduceToNat, Int.toNat_natCast, List.getD, Option.getD, Option.map, flat, flat1, scal, if_true, ↓reduceIte])
                                                                                    refine AD.qc rfl rfl hg20 (OQ.load1 rfl (by kernel_rfl) (by first | (exact hget k hkl) | (conv => lhs; whnf))) rfl rfl rfl ?_
                                                                                    refine AD.qc rfl rfl hg20 (OQ.lss rfl rfl) rfl rfl rfl ?_
                                                                                    refine AD.q rfl (OQ.pickF rfl hg20 (by conv => lhs; whnf)) rfl rfl rfl ?_
                                                                                    conv => (arg 10; try simp only [T.put, T.ev, putAt, setsT, newBlks, fillL, List.map, List.set, List.append, List.cons_append, List.nil_append, List.length, List.getElem?_cons_zero, List.getElem?_cons_succ, Nat.reduceAdd, Nat.reduceMul, Nat.zero_add, Nat.add_zero, Nat.mul_one, Nat.zero_mul, List.drop, List.take, List.toList_toArray, Value.cells, Int.reduceToNat, Int.toNat_natCast, List.getD, Option.getD, Option.map, flat, flat1, scal, if_true, ↓reduceIte])
                                                                                    refine AD.nil ?_
                                                                                    conv => (arg 5; try simp only [T.put, T.ev, putAt, setsT, newBlks, fillL, List.map, List.set, List.append, List.cons_append, List.nil_append, List.length, List.getElem?_cons_zero, List.getElem?_cons_succ, Nat.reduceAdd, Nat.reduceMul, Nat.zero_add, Nat.add_zero, Nat.mul_one, Nat.zero_mul, List.drop, List.take, List.toList_toArray, Value.cells, Int.reduceToNat, Int.toNat_natCast, List.getD, Option.getD, Option.map, flat, flat1, scal, if_true, ↓reduceIte])
                                                                                    conv => (arg 6; try simp only [T.put, T.ev, putAt, setsT, newBlks, fillL, List.map, List.set, List.append, List.cons_append, List.nil_append, List.length, List.getElem?_cons_zero, List.getElem?_cons_succ, Nat.reduceAdd, Nat.reduceMul, Nat.zero_add, Nat.add_zero, Nat.mul_one, Nat.zero_mul, List.drop, List.take, List.toList_toArray, Value.cells, Int.reduceToNat, Int.toNat_natCast, List.getD, Option.getD, Option.map, flat, flat1, scal, if_true, ↓reduceIte])
                                                                                    conv => (arg 5; try simp only [T.put, T.ev, putAt, setsT, newBlks, fillL, List.map, List.set, List.append, List.cons_append, List.nil_append, List.length, List.getElem?_cons_zero, List.getElem?_cons_succ, Nat.reduceAdd, Nat.reduceMul, Nat.zero_add, Nat.add_zero, Nat.mul_one, Nat.zero_mul, List.drop, List.take, List.toList_toArray, Value.cells, Int.reduceToNat, Int.toNat_natCast, List.getD, Option.getD, Option.map, flat, flat1, scal, if_true, ↓reduceIte])
                                                                                    refine AL.nil ?_
                                                                                    refine Then.n ?_
                                                                                    refine AW.cond rfl (fun hc21 => ?_) (fun hc21 => ?_)
                                                                                    · have hc21_ := hc21; (try simp only [decide_eq_true_eq, decide_eq_false_iff_not, Bool.not_true, Bool.not_false, Bool.not_eq_true', Bool.not_eq_false', Int.not_lt, Int.not_le, Classical.not_not, ne_eq] at hc21_)
                                                                                      first
                                                                                      | (exfalso; simp at hc21_; done)
                                                                                      | (exfalso; omega; done)
                                                                                      | skip
                                                                                        refine AW.seq ?_
                                                                                        refine AW.region ?_
                                                                                        refine AL.q rfl (OQ.assign (by conv => lhs; whnf)) ?_
                                                                                        conv => (arg 5; try simp only [T.put, T.ev, putAt, setsT, newBlks, fillL, List.map, List.set, List.append, List.cons_append, List.nil_append, List.length, List.getElem?_cons_zero, List.getElem?_cons_succ, Nat.reduceAdd, Nat.reduceMul, Nat.zero_add, Nat.add_zero, Nat.mul_one, Nat.zero_mul, List.drop, List.take, List.toList_toArray, Value.cells, Int.reduceToNat, Int.toNat_natCast, List.getD, Option.getD, Option.map, flat, flat1, scal, if_true, ↓reduceIte])
                                                                                        refine AL.nil ?_
                                                                                        refine Then.n ?_
                                                                                        refine AW.ret ?_
                                                                                        refine InB.r ?_
                                                                                        refine Then.r ?_
                                                                                        refine Then.r ?_
                                                                                        refine InB.r ?_
                                                                                        refine Then.r ?_
                                                                                        refine FinP.ret (.tmp (by conv => lhs; whnf) .nil) ?_ rfl
                                                                                        (try simp only [pack, List.drop, List.take])
                                                                                        all_goals (rfl)
                                                                                    · have hc21_ := hc21; (try simp only [decide_eq_true_eq, decide_eq_false_iff_not, Bool.not_true, Bool.not_false, Bool.not_eq_true', Bool.not_eq_false', Int.not_lt, Int.not_le, Classical.not_not, ne_eq] at hc21_)
                                                                                      first
                                                                                      | (exfalso; simp at hc21_; done)
                                                                                      | (exfalso; omega; done)
                                                                                      | skip
                                                                                        refine AW.skip ?_
                                                                                        refine InB.n ?_
                                                                                        refine Then.n ?_
                                                                                        refine AW.region ?_
                                                                                        refine AL.q rfl (OQ.move (by conv => lhs; whnf)) ?_
                                                                                        first | refine AL.q rfl (OQ.addi rfl rfl (by omega)) ?_ | refine AL.q rfl (OQ.add rfl rfl) ?_
                                                                                        refine AL.q rfl (OQ.assign (by conv => lhs; whnf)) ?_
                                                                                        conv => (arg 5; try simp only [T.put, T.ev, putAt, setsT, newBlks, fillL, List.map, List.set, List.append, List.cons_append, List.nil_append, List.length, List.getElem?_cons_zero, List.getElem?_cons_succ, Nat.reduceAdd, Nat.reduceMul, Nat.zero_add, Nat.add_zero, Nat.mul_one, Nat.zero_mul, List.drop, List.take, List.toList_toArray, Value.cells, Int.reduceToNat, Int.toNat_natCast, List.getD, Option.getD, Option.map, flat, flat1, scal, if_true, ↓reduceIte])
                                                                                        refine AL.nil ?_
                                                                                        refine Then.n ?_
                                                                                        refine AR.s ?_
                                                                                        refine AW.seq ?_
                                                                                        refine AW.seq ?_
                                                                                        refine AW.region ?_
                                                                                        refine AL.q rfl (OQ.move (by conv => lhs; whnf)) ?_
                                                                                        conv => (arg 5; try simp only [T.put, T.ev, putAt, setsT, newBlks, fillL, List.map, List.set, List.append, List.cons_append, List.nil_append, List.length, List.getElem?_cons_zero, List.getElem?_cons_succ, Nat.reduceAdd, Nat.reduceMul, Nat.zero_add, Nat.add_zero, Nat.mul_one, Nat.zero_mul, List.drop, List.take, List.toList_toArray, Value.cells, Int.reduceToNat, Int.toNat_natCast, List.getD, Option.getD, Option.map, flat, flat1, scal, if_true, ↓reduceIte])
                                                                                        refine AL.q rfl (OQ.lss rfl rfl) ?_
                                                                                        conv => (arg 5; try simp only [T.put, T.ev, putAt, setsT, newBlks, fillL, List.map, List.set, List.append, List.cons_append, List.nil_append, List.length, List.getElem?_cons_zero, List.getElem?_cons_succ, Nat.reduceAdd, Nat.reduceMul, Nat.zero_add, Nat.add_zero, Nat.mul_one, Nat.zero_mul, List.drop, List.take, List.toList_toArray, Value.cells, Int.reduceToNat, Int.toNat_natCast, List.getD, Option.getD, Option.map, flat, flat1, scal, if_true, ↓reduceIte])
                                                                                        refine AL.nil ?_
                                                                                        refine Then.n ?_
                                                                                        refine AW.cond rfl (fun hc22 => ?_) (fun hc22 => ?_)
                                                                                        · have hc22_ := hc22; (try simp only [decide_eq_true_eq, decide_eq_false_iff_not, Bool.not_true, Bool.not_false, Bool.not_eq_true', Bool.not_eq_false', Int.not_lt, Int.not_le, Classical.not_not, ne_eq] at hc22_)
                                                                                          first
                                                                                          | (exfalso; simp at hc22_; done)
                                                                                          | (exfalso; omega; done)
                                                                                          | skip
                                                                                            refine AW.skip ?_
                                                                                            refine Then.n ?_
                                                                                            refine AW.seq ?_
                                                                                            refine AW.block ?_
                                                                                            refine AW.seq ?_
                                                                                            refine AW.draw 20 #[0, 1, 3, 7, 0, 16, 48, 112, 255, 511, 1023, 2047, 4095, 8191, 1023, 17407, 50175, 115711, 262143, 524287] (by kernel_rfl) (by kernel_rfl) ?_
                                                                                            refine AD.q rfl (OQ.move (by conv => lhs; whnf)) rfl rfl rfl ?_
                                                                                            refine AD.q rfl (OQ.idxPtr (n := 2) (l := 3) (g := true) rfl rfl (by kernel_rfl) (by omega) (by omega)) rfl rfl rfl ?_
                                                                                            conv => (arg 10; try simp only [T.put, T.ev, putAt, setsT, newBlks, fillL, List.map, List.set, List.append, List.cons_append, List.nil_append, List.length, List.getElem?_cons_zero, List.getElem?_cons_succ, Nat.reduceAdd, Nat.reduceMul, Nat.zero_add, Nat.add_zero, Nat.mul_one, Nat.zero_mul, List.drop, List.take, List.toList_toArray, Value.cells, Int.reduceToNat, Int.toNat_natCast, List.getD, Option.getD, Option.map, flat, flat1, scal, if_true, ↓reduceIte])
                                                                                            refine AD.q rfl (OQ.fieldA (n := 1) (off := 0) (g := false) rfl (by kernel_rfl) (by decide)) rfl rfl rfl ?_
                                                                                            conv => (arg 10; try simp only [T.put, T.ev, putAt, setsT, newBlks, fillL, List.map, List.set, List.append, List.cons_append, List.nil_append, List.length, List.getElem?_cons_zero, List.getElem?_cons_succ, Nat.reduceAdd, Nat.reduceMul, Nat.zero_add, Nat.add_zero, Nat.mul_one, Nat.zero_mul, List.drop, List.take, List.toList_toArray, Value.cells, Int.reduceToNat, Int.toNat_natCast, List.getD, Option.getD, Option.map, flat, flat1, scal, if_true, ↓reduceIte])
                                                                                            refine AD.q rfl (OQ.load1 rfl (by kernel_rfl) (by first | (exact hget k hkl) | (conv => lhs; whnf))) rfl rfl rfl ?_
                                                                                            refine AD.q rfl (OQ.move (by conv => lhs; whnf)) rfl rfl rfl ?_
                                                                                            refine AD.q rfl (OQ.idxPtr (n := 2) (l := 3) (g := true) rfl rfl (by kernel_rfl) (by omega) (by omega)) rfl rfl rfl ?_
                                                                                            conv => (arg 10; try simp only [T.put, T.ev, putAt, setsT, newBlks, fillL, List.map, List.set, List.append, List.cons_append, List.nil_append, List.length, List.getElem?_cons_zero, List.getElem?_cons_succ, Nat.reduceAdd, Nat.reduceMul, Nat.zero_add, Nat.add_zero, Nat.mul_one, Nat.zero_mul, List.drop, List.take, List.toList_toArray, Value.cells, Int.reduceToNat, Int.toNat_natCast, List.getD, Option.getD, Option.map, flat, flat1, scal, if_true, ↓reduceIte])
                                                                                            refine AD.q rfl (OQ.fieldA (n := 1) (off := 0) (g := false) rfl (by kernel_rfl) (by decide)) rfl rfl rfl ?_
                                                                                            conv => (arg 10; try simp only [T.put, T.ev, putAt, setsT, newBlks, fillL, List.map, List.set, List.append, List.cons_append, List.nil_append, List.length, List.getElem?_cons_zero, List.getElem?_cons_succ, Nat.reduceAdd, Nat.reduceMul, Nat.zero_add, Nat.add_zero, Nat.mul_one, Nat.zero_mul, List.drop, List.take, List.toList_toArray, Value.cells, Int.reduceToNat, Int.toNat_natCast, List.getD, Option.getD, Option.map, flat, flat1, scal, if_true, ↓reduceIte])
                                                                                            refine AD.q rfl (OQ.load1 rfl (by kernel_rfl) (by first | (exact hget k hkl) | (conv => lhs; whnf))) rfl rfl rfl ?_
                                                                                            refine AD.q rfl (OQ.gtr rfl rfl) rfl rfl rfl ?_
                                                                                            refine AD.q rfl (OQ.move (by conv => lhs; whnf)) rfl rfl rfl ?_
                                                                                            refine AD.gcase rfl rfl (fun hg23 => ?_) (fun hg23 => ?_)
                                                                                            · have hg23_ := hg23; (try simp only [decide_eq_true_eq, decide_eq_false_iff_not, Bool.not_true, Bool.not_false, Bool.not_eq_true', Bool.not_eq_false', Int.not_lt, Int.not_le, Classical.not_not, ne_eq] at hg23_)
                                                                                              first
                                                                                              | (exfalso; simp at hg23_; done)
                                                                                              | (exfalso; omega; done)
                                                                                              | skip
                                                                                                refine AD.qc rfl rfl hg23 (OQ.move (by conv => lhs; whnf)) rfl rfl rfl ?_
                                                                                                refine AD.qc rfl rfl hg23 (OQ.idxPtr (n := 2) (l := 3) (g := true) rfl rfl (by kernel_rfl) (by omega) (by omega)) rfl rfl rfl ?_
                                                                                                conv => (arg 10; try simp only [T.put, T.ev, putAt, setsT, newBlks, fillL, List.map, List.set, List.append, List.cons_append, List.nil_append, List.length, List.getElem?_cons_zero, List.getElem?_cons_succ, Nat.reduceAdd, Nat.reduceMul, Nat.zero_add, Nat.add_zero, Nat.mul_one, Nat.zero_mul, List.drop, List.take, List.toList_toArray, Value.cells, Int.reduceToNat, Int.toNat_natCast, List.getD, Option.getD, Option.map, flat, flat1, scal, if_true, ↓reduceIte])
                                                                                                refine AD.qc rfl rfl hg23 (OQ.fieldA (n := 1) (off := 1) (g := false) rfl (by kernel_rfl) (by decide)) rfl rfl rfl ?_
                                                                                                conv => (arg 10; try simp only [T.put, T.ev, putAt, setsT, newBlks, fillL, List.map, List.set, List.append, List.cons_append, List.nil_append, List.length, List.getElem?_cons_zero, List.getElem?_cons_succ, Nat.reduceAdd, Nat.reduceMul, Nat.zero_add, Nat.add_zero, Nat.mul_one, Nat.zero_mul, List.drop, List.take, List.toList_toArray, Value.cells, Int.reduceToNat, Int.toNat_natCast, List.getD, Option.getD, Option.map, flat, flat1, scal, if_true, ↓reduceIte])
                                                                                                refine AD.qc rfl rfl hg23 (OQ.load1 rfl (by kernel_rfl) (by first | (exact hget k hkl) | (conv => lhs; whnf))) rfl rfl rfl ?_
                                                                                                refine AD.qc rfl rfl hg23 (OQ.move (by conv => lhs; whnf)) rfl rfl rfl ?_
                                                                                                refine AD.qc rfl rfl hg23 (OQ.idxPtr (n := 2) (l := 3) (g := true) rfl rfl (by kernel_rfl) (by omega) (by omega)) rfl rfl rfl ?_
                                                                                                conv => (arg 10; try simp only [T.put, T.ev, putAt, setsT, newBlks, fillL, List.map, List.set, List.append, List.cons_append, List.nil_append, List.length, List.getElem?_cons_zero, List.getElem?_cons_succ, Nat.reduceAdd, Nat.reduceMul, Nat.zero_add, Nat.add_zero, Nat.mul_one, Nat.zero_mul, List.drop, List.take, List.toList_toArray, Value.cells, Int.reduceToNat, Int.toNat_natCast, List.getD, Option.getD, Option.map, flat, flat1, scal, if_true, ↓reduceIte])
                                                                                                refine AD.qc rfl rfl hg23 (OQ.fieldA (n := 1) (off := 1) (g := false) rfl (by kernel_rfl) (by decide)) rfl rfl rfl ?_
                                                                                                conv => (arg 10; try simp only [T.put, T.ev, putAt, setsT, newBlks, fillL, List.map, List.set, List.append, List.cons_append, List.nil_append, List.length, List.getElem?_cons_zero, List.getElem?_cons_succ, Nat.reduceAdd, Nat.reduceMul, Nat.zero_add, Nat.add_zero, Nat.mul_one, Nat.zero_mul, List.drop, List.take, List.toList_toArray, Value.cells, Int.reduceToNat, Int.toNat_natCast, List.getD, Option.getD, Option.map, flat, flat1, scal, if_true, ↓reduceIte])
                                                                                                refine AD.qc rfl rfl hg23 (OQ.load1 rfl (by kernel_rfl) (by first | (exact hget k hkl) | (conv => lhs; whnf))) rfl rfl rfl ?_
                                                                                                refine AD.qc rfl rfl hg23 (OQ.lss rfl rfl) rfl rfl rfl ?_
                                                                                                refine AD.q rfl (OQ.pickF rfl hg23 (by conv => lhs; whnf)) rfl rfl rfl ?_
                                                                                                conv => (arg 10; try simp only [T.put, T.ev, putAt, setsT, newBlks, fillL, List.map, List.set, List.append, List.cons_append, List.nil_append, List.length, List.getElem?_cons_zero, List.getElem?_cons_succ, Nat.reduceAdd, Nat.reduceMul, Nat.zero_add, Nat.add_zero, Nat.mul_one, Nat.zero_mul, List.drop, List.take, List.toList_toArray, Value.cells, Int.reduceToNat, Int.toNat_natCast, List.getD, Option.getD, Option.map, flat, flat1, scal, if_true, ↓reduceIte])
                                                                                                refine AD.nil ?_
                                                                                                conv => (arg 5; try simp only [T.put, T.ev, putAt, setsT, newBlks, fillL, List.map, List.set, List.append, List.cons_append, List.nil_append, List.length, List.getElem?_cons_zero, List.getElem?_cons_succ, Nat.reduceAdd, Nat.reduceMul, Nat.zero_add, Nat.add_zero, Nat.mul_one, Nat.zero_mul, List.drop, List.take, List.toList_toArray, Value.cells, Int.reduceToNat, Int.toNat_natCast, List.getD, Option.getD, Option.map, flat, flat1, scal, if_true, ↓reduceIte])
                                                                                                conv => (arg 6; try simp only [T.put, T.ev, putAt, setsT, newBlks, fillL, List.map, List.set, List.append, List.cons_append, List.nil_append, List.length, List.getElem?_cons_zero, List.getElem?_cons_succ, Nat.reduceAdd, Nat.reduceMul, Nat.zero_add, Nat.add_zero, Nat.mul_one, Nat.zero_mul, List.drop, List.take, List.toList_toArray, Value.cells, Int.reduceToNat, Int.toNat_natCast, List.getD, Option.getD, Option.map, flat, flat1, scal, if_true, ↓reduceIte])
                                                                                                conv => (arg 5; try simp only [T.put, T.ev, putAt, setsT, newBlks, fillL, List.map, List.set, List.append, List.cons_append, List.nil_append, List.length, List.getElem?_cons_zero, List.getElem?_cons_succ, Nat.reduceAdd, Nat.reduceMul, Nat.zero_add, Nat.add_zero, Nat.mul_one, Nat.zero_mul, List.drop, List.take, List.toList_toArray, Value.cells, Int.reduceToNat, Int.toNat_natCast, List.getD, Option.getD, Option.map, flat, flat1, scal, if_true, ↓reduceIte])
                                                                                                refine AL.nil ?_
                                                                                                refine Then.n ?_
                                                                                                refine AW.cond rfl (fun hc24 => ?_) (fun hc24 => ?_)
                                                                                                · have hc24_ := hc24; (try simp only [decide_eq_true_eq, decide_eq_false_iff_not, Bool.not_true, Bool.not_false, Bool.not_eq_true', Bool.not_eq_false', Int.not_lt, Int.not_le, Classical.not_not, ne_eq] at hc24_)
                                                                                                  first
                                                                                                  | (exfalso; simp at hc24_; done)
                                                                                                  | (exfalso; omega; done)
                                                                                                  | skip
                                                                                                    refine AW.seq ?_
                                                                                                    refine AW.region ?_
                                                                                                    refine AL.q rfl (OQ.assign (by conv => lhs; whnf)) ?_
                                                                                                    conv => (arg 5; try simp only [T.put, T.ev, putAt, setsT, newBlks, fillL, List.map, List.set, List.append, List.cons_append, List.nil_append, List.length, List.getElem?_cons_zero, List.getElem?_cons_succ, Nat.reduceAdd, Nat.reduceMul, Nat.zero_add, Nat.add_zero, Nat.mul_one, Nat.zero_mul, List.drop, List.take, List.toList_toArray, Value.cells, Int.reduceToNat, Int.toNat_natCast, List.getD, Option.getD, Option.map, flat, flat1, scal, if_true, ↓reduceIte])
                                                                                                    refine AL.nil ?_
                                                                                                    refine Then.n ?_
                                                                                                    refine AW.ret ?_
                                                                                                    refine InB.r ?_
                                                                                                    refine Then.r ?_
                                                                                                    refine Then.r ?_
                                                                                                    refine InB.r ?_
                                                                                                    refine Then.r ?_
                                                                                                    refine FinP.ret (.tmp (by conv => lhs; whnf) .nil) ?_ rfl
                                                                                                    (try simp only [pack, List.drop, List.take])
                                                                                                    all_goals (rfl)
                                                                                                · have hc24_ := hc24; (try simp only [decide_eq_true_eq, decide_eq_false_iff_not, Bool.not_true, Bool.not_false, Bool.not_eq_true', Bool.not_eq_false', Int.not_lt, Int.not_le, Classical.not_not, ne_eq] at hc24_)
                                                                                                  first
                                                                                                  | (exfalso; simp at hc24_; done)
                                                                                                  | (exfalso; omega; done)
                                                                                                  | skip
                                                                                                    refine AW.skip ?_
                                                                                                    refine InB.n ?_
                                                                                                    refine Then.n ?_
                                                                                                    refine AW.region ?_
                                                                                                    refine AL.q rfl (OQ.move (by conv => lhs; whnf)) ?_
                                                                                                    first | refine AL.q rfl (OQ.addi rfl rfl (by omega)) ?_ | refine AL.q rfl (OQ.add rfl rfl) ?_
                                                                                                    refine AL.q rfl (OQ.assign (by conv => lhs; whnf)) ?_
                                                                                                    conv => (arg 5; try simp only [T.put, T.ev, putAt, setsT, newBlks, fillL, List.map, List.set, List.append, List.cons_append, List.nil_append, List.length, List.getElem?_cons_zero, List.getElem?_cons_succ, Nat.reduceAdd, Nat.reduceMul, Nat.zero_add, Nat.add_zero, Nat.mul_one, Nat.zero_mul, List.drop, List.take, List.toList_toArray, Value.cells, Int.reduceToNat, Int.toNat_natCast, List.getD, Option.getD, Option.map, flat, flat1, scal, if_true, ↓reduceIte])
                                                                                                    refine AL.nil ?_
                                                                                                    refine Then.n ?_
                                                                                                    exfalso; omega
                                                                                            · have hg23_ := hg23; (try simp only [decide_eq_true_eq, decide_eq_false_iff_not, Bool.not_true, Bool.not_false, Bool.not_eq_true', Bool.not_eq_false', Int.not_lt, Int.not_le, Classical.not_not, ne_eq] at hg23_)
                                                                                              first
                                                                                              | (exfalso; simp at hg23_; done)
                                                                                              | (exfalso; omega; done)
                                                                                              | skip
                                                                                                refine AD.gnoc rfl rfl hg23 rfl ?_
                                                                                                refine AD.gnoc rfl rfl hg23 rfl ?_
                                                                                                refine AD.gnoc rfl rfl hg23 rfl ?_
                                                                                                refine AD.gnoc rfl rfl hg23 rfl ?_
                                                                                                refine AD.gnoc rfl rfl hg23 rfl ?_
                                                                                                refine AD.gnoc rfl rfl hg23 rfl ?_
                                                                                                refine AD.gnoc rfl rfl hg23 rfl ?_
                                                                                                refine AD.gnoc rfl rfl hg23 rfl ?_
                                                                                                refine AD.gnoc rfl rfl hg23 rfl ?_
                                                                                                refine AD.q rfl (OQ.pickT rfl hg23 (by conv => lhs; whnf)) rfl rfl rfl ?_
                                                                                                conv => (arg 10; try simp only [T.put, T.ev, putAt, setsT, newBlks, fillL, List.map, List.set, List.append, List.cons_append, List.nil_append, List.length, List.getElem?_cons_zero, List.getElem?_cons_succ, Nat.reduceAdd, Nat.reduceMul, Nat.zero_add, Nat.add_zero, Nat.mul_one, Nat.zero_mul, List.drop, List.take, List.toList_toArray, Value.cells, Int.reduceToNat, Int.toNat_natCast, List.getD, Option.getD, Option.map, flat, flat1, scal, if_true, ↓reduceIte])
                                                                                                refine AD.nil ?_
                                                                                                conv => (arg 5; try simp only [T.put, T.ev, putAt, setsT, newBlks, fillL, List.map, List.set, List.append, List.cons_append, List.nil_append, List.length, List.getElem?_cons_zero, List.getElem?_cons_succ, Nat.reduceAdd, Nat.reduceMul, Nat.zero_add, Nat.add_zero, Nat.mul_one, Nat.zero_mul, List.drop, List.take, List.toList_toArray, Value.cells, Int.reduceToNat, Int.toNat_natCast, List.getD, Option.getD, Option.map, flat, flat1, scal, if_true, ↓reduceIte])
                                                                                                conv => (arg 6; try simp only [T.put, T.ev, putAt, setsT, newBlks, fillL, List.map, List.set, List.append, List.cons_append, List.nil_append, List.length, List.getElem?_cons_zero, List.getElem?_cons_succ, Nat.reduceAdd, Nat.reduceMul, Nat.zero_add, Nat.add_zero, Nat.mul_one, Nat.zero_mul, List.drop, List.take, List.toList_toArray, Value.cells, Int.reduceToNat, Int.toNat_natCast, List.getD, Option.getD, Option.map, flat, flat1, scal, if_true, ↓reduceIte])
                                                                                                conv => (arg 5; try simp only [T.put, T.ev, putAt, setsT, newBlks, fillL, List.map, List.set, List.append, List.cons_append, List.nil_append, List.length, List.getElem?_cons_zero, List.getElem?_cons_succ, Nat.reduceAdd, Nat.reduceMul, Nat.zero_add, Nat.add_zero, Nat.mul_one, Nat.zero_mul, List.drop, List.take, List.toList_toArray, Value.cells, Int.reduceToNat, Int.toNat_natCast, List.getD, Option.getD, Option.map, flat, flat1, scal, if_true, ↓reduceIte])
                                                                                                refine AL.nil ?_
                                                                                                refine Then.n ?_
                                                                                                refine AW.condT rfl rfl ?_
                                                                                                refine AW.seq ?_
                                                                                                refine AW.region ?_
                                                                                                refine AL.q rfl (OQ.assign (by conv => lhs; whnf)) ?_
                                                                                                conv => (arg 5; try simp only [T.put, T.ev, putAt, setsT, newBlks, fillL, List.map, List.set, List.append, List.cons_append, List.nil_append, List.length, List.getElem?_cons_zero, List.getElem?_cons_succ, Nat.reduceAdd, Nat.reduceMul, Nat.zero_add, Nat.add_zero, Nat.mul_one, Nat.zero_mul, List.drop, List.take, List.toList_toArray, Value.cells, Int.reduceToNat, Int.toNat_natCast, List.getD, Option.getD, Option.map, flat, flat1, scal, if_true, ↓reduceIte])
                                                                                                refine AL.nil ?_
                                                                                                refine Then.n ?_
                                                                                                refine AW.ret ?_
                                                                                                refine InB.r ?_
                                                                                                refine Then.r ?_
                                                                                                refine Then.r ?_
                                                                                                refine InB.r ?_
                                                                                                refine Then.r ?_
                                                                                                refine FinP.ret (.tmp (by conv => lhs; whnf) .nil) ?_ rfl
                                                                                                (try simp only [pack, List.drop, List.take])
                                                                                                all_goals (rfl)
                                                                                        · have hc22_ := hc22; (try simp only [decide_eq_true_eq, decide_eq_false_iff_not, Bool.not_true, Bool.not_false, Bool.not_eq_true', Bool.not_eq_false', Int.not_lt, Int.not_le, Classical.not_not, ne_eq] at hc22_)
                                                                                          first
                                                                                          | (exfalso; simp at hc22_; done)
                                                                                          | (exfalso; omega; done)
                                                                                          | skip
                                                                                            refine AW.exit ?_
                                                                                            refine Then.x ?_
                                                                                            refine Then.x ?_
                                                                                            refine InB.hit ?_
                                                                                            refine Then.n ?_
                                                                                            refine AW.seq ?_
                                                                                            refine AW.region ?_
                                                                                            refine AL.q rfl (OQ.assign (by conv => lhs; whnf)) ?_
                                                                                            conv => (arg 5; try simp only [T.put, T.ev, putAt, setsT, newBlks, fillL, List.map, List.set, List.append, List.cons_append, List.nil_append, List.length, List.getElem?_cons_zero, List.getElem?_cons_succ, Nat.reduceAdd, Nat.reduceMul, Nat.zero_add, Nat.add_zero, Nat.mul_one, Nat.zero_mul, List.drop, List.take, List.toList_toArray, Value.cells, Int.reduceToNat, Int.toNat_natCast, List.getD, Option.getD, Option.map, flat, flat1, scal, if_true, ↓reduceIte])
                                                                                            refine AL.nil ?_
                                                                                            refine Then.n ?_
                                                                                            refine AW.ret ?_
                                                                                            refine FinP.ret (.tmp (by conv => lhs; whnf) .nil) ?_ rfl
                                                                                            (try simp only [pack, List.drop, List.take])
                                                                                            all_goals (rfl)
                                                                                · have hg20_ := hg20; (try simp only [decide_eq_true_eq, decide_eq_false_iff_not, Bool.not_true, Bool.not_false, Bool.not_eq_true', Bool.not_eq_false', Int.not_lt, Int.not_le, Classical.not_not, ne_eq] at hg20_)
                                                                                  first
                                                                                  | (exfalso; simp at hg20_; done)
                                                                                  | (exfalso; omega; done)
                                                                                  | skip
                                                                                    refine AD.gnoc rfl rfl hg20 rfl ?_
                                                                                    refine AD.gnoc rfl rfl hg20 rfl ?_
                                                                                    refine AD.gnoc rfl rfl hg20 rfl ?_
                                                                                    refine AD.gnoc rfl rfl hg20 rfl ?_
                                                                                    refine AD.gnoc rfl rfl hg20 rfl ?_
                                                                                    refine AD.gnoc rfl rfl hg20 rfl ?_
                                                                                    refine AD.gnoc rfl rfl hg20 rfl ?_
                                                                                    refine AD.gnoc rfl rfl hg20 rfl ?_
                                                                                    refine AD.gnoc rfl rfl hg20 rfl ?_
                                                                                    refine AD.q rfl (OQ.pickT rfl hg20 (by conv => lhs; whnf)) rfl rfl rfl ?_
                                                                                    conv => (arg 10; try simp only [T.put, T.ev, putAt, setsT, newBlks, fillL, List.map, List.set, List.append, List.cons_append, List.nil_append, List.length, List.getElem?_cons_zero, List.getElem?_cons_succ, Nat.reduceAdd, Nat.reduceMul, Nat.zero_add, Nat.add_zero, Nat.mul_one, Nat.zero_mul, List.drop, List.take, List.toList_toArray, Value.cells, Int.reduceToNat, Int.toNat_natCast, List.getD, Option.getD, Option.map, flat, flat1, scal, if_true, ↓reduceIte])
                                                                                    refine AD.nil ?_
                                                                                    conv => (arg 5; try simp only [T.put, T.ev, putAt, setsT, newBlks, fillL, List.map, List.set, List.append, List.cons_append, List.nil_append, List.length, List.getElem?_cons_zero, List.getElem?_cons_succ, Nat.reduceAdd, Nat.reduceMul, Nat.zero_add, Nat.add_zero, Nat.mul_one, Nat.zero_mul, List.drop, List.take, List.toList_toArray, Value.cells, Int.reduceToNat, Int.toNat_natCast, List.getD, Option.getD, Option.map, flat, flat1, scal, if_true, ↓reduceIte])
                                                                                    conv => (arg 6; try simp only [T.put, T.ev, putAt, setsT, newBlks, fillL, List.map, List.set, List.append, List.cons_append, List.nil_append, List.length, List.getElem?_cons_zero, List.getElem?_cons_succ, Nat.reduceAdd, Nat.reduceMul, Nat.zero_add, Nat.add_zero, Nat.mul_one, Nat.zero_mul, List.drop, List.take, List.toList_toArray, Value.cells, Int.reduceToNat, Int.toNat_natCast, List.getD, Option.getD, Option.map, flat, flat1, scal, if_true, ↓reduceIte])
                                                                                    conv => (arg 5; try simp only [T.put, T.ev, putAt, setsT, newBlks, fillL, List.map, List.set, List.append, List.cons_append, List.nil_append, List.length, List.getElem?_cons_zero, List.getElem?_cons_succ, Nat.reduceAdd, Nat.reduceMul, Nat.zero_add, Nat.add_zero, Nat.mul_one, Nat.zero_mul, List.drop, List.take, List.toList_toArray, Value.cells, Int.reduceToNat, Int.toNat_natCast, List.getD, Option.getD, Option.map, flat, flat1, scal, if_true, ↓reduceIte])
                                                                                    refine AL.nil ?_
                                                                                    refine Then.n ?_
                                                                                    refine AW.condT rfl rfl ?_
                                                                                    refine AW.seq ?_
                                                                                    refine AW.region ?_
                                                                                    refine AL.q rfl (OQ.assign (by conv => lhs; whnf)) ?_
                                                                                    conv => (arg 5; try simp only [T.put, T.ev, putAt, setsT, newBlks, fillL, List.map, List.set, List.append, List.cons_append, List.nil_append, List.length, List.getElem?_cons_zero, List.getElem?_cons_succ, Nat.reduceAdd, Nat.reduceMul, Nat.zero_add, Nat.add_zero, Nat.mul_one, Nat.zero_mul, List.drop, List.take, List.toList_toArray, Value.cells, Int.reduceToNat, Int.toNat_natCast, List.getD, Option.getD, Option.map, flat, flat1, scal, if_true, ↓reduceIte])
                                                                                    refine AL.nil ?_
                                                                                    refine Then.n ?_
                                                                                    refine AW.ret ?_
                                                                                    refine InB.r ?_
                                                                                    refine Then.r ?_
                                                                                    refine Then.r ?_
                                                                                    refine InB.r ?_
                                                                                    refine Then.r ?_
                                                                                    refine FinP.ret (.tmp (by conv => lhs; whnf) .nil) ?_ rfl
                                                                                    (try simp only [pack, List.drop, List.take])
                                                                                    all_goals (rfl)
                                                                            · have hc19_ := hc19; (try simp only [decide_eq_true_eq, decide_eq_false_iff_not, Bool.not_true, Bool.not_false, Bool.not_eq_true', Bool.not_eq_false', Int.not_lt, Int.not_le, Classical.not_not, ne_eq] at hc19_)
                                                                              first
                                                                              | (exfalso; simp at hc19_; done)
                                                                              | (exfalso; omega; done)
                                                                              | skip
                                                                                refine AW.exit ?_
                                                                                refine Then.x ?_
                                                                                refine Then.x ?_
                                                                                refine InB.hit ?_
                                                                                refine Then.n ?_
                                                                                refine AW.seq ?_
                                                                                refine AW.region ?_
                                                                                refine AL.q rfl (OQ.assign (by conv => lhs; whnf)) ?_
                                                                                conv => (arg 5; try simp only [T.put, T.ev, putAt, setsT, newBlks, fillL, List.map, List.set, List.append, List.cons_append, List.nil_append, List.length, List.getElem?_cons_zero, List.getElem?_cons_succ, Nat.reduceAdd, Nat.reduceMul, Nat.zero_add, Nat.add_zero, Nat.mul_one, Nat.zero_mul, List.drop, List.take, List.toList_toArray, Value.cells, Int.reduceToNat, Int.toNat_natCast, List.getD, Option.getD, Option.map, flat, flat1, scal, if_true, ↓reduceIte])
                                                                                refine AL.nil ?_
                                                                                refine Then.n ?_
                                                                                refine AW.ret ?_
                                                                                refine FinP.ret (.tmp (by conv => lhs; whnf) .nil) ?_ rfl
                                                                                (try simp only [pack, List.drop, List.take])
                                                                                all_goals (rfl)
                                                                    · have hg17_ := hg17; (try simp only [decide_eq_true_eq, decide_eq_false_iff_not, Bool.not_true, Bool.not_false, Bool.not_eq_true', Bool.not_eq_false', Int.not_lt, Int.not_le, Classical.not_not, ne_eq] at hg17_)
                                                                      first
                                                                      | (exfalso; simp at hg17_; done)
                                                                      | (exfalso; omega; done)
                                                                      | skip
                                                                        refine AD.gnoc rfl rfl hg17 rfl ?_
                                                                        refine AD.gnoc rfl rfl hg17 rfl ?_
                                                                        refine AD.gnoc rfl rfl hg17 rfl ?_
                                                                        refine AD.gnoc rfl rfl hg17 rfl ?_
                                                                        refine AD.gnoc rfl rfl hg17 rfl ?_
                                                                        refine AD.gnoc rfl rfl hg17 rfl ?_
                                                                        refine AD.gnoc rfl rfl hg17 rfl ?_
                                                                        refine AD.gnoc rfl rfl hg17 rfl ?_
                                                                        refine AD.gnoc rfl rfl hg17 rfl ?_
                                                                        refine AD.q rfl (OQ.pickT rfl hg17 (by conv => lhs; whnf)) rfl rfl rfl ?_
                                                                        conv => (arg 10; try simp only [T.put, T.ev, putAt, setsT, newBlks, fillL, List.map, List.set, List.append, List.cons_append, List.nil_append, List.length, List.getElem?_cons_zero, List.getElem?_cons_succ, Nat.reduceAdd, Nat.reduceMul, Nat.zero_add, Nat.add_zero, Nat.mul_one, Nat.zero_mul, List.drop, List.take, List.toList_toArray, Value.cells, Int.reduceToNat, Int.toNat_natCast, List.getD, Option.getD, Option.map, flat, flat1, scal, if_true, ↓reduceIte])
                                                                        refine AD.nil ?_
                                                                        conv => (arg 5; try simp only [T.put, T.ev, putAt, setsT, newBlks, fillL, List.map, List.set, List.append, List.cons_append, List.nil_append, List.length, List.getElem?_cons_zero, List.getElem?_cons_succ, Nat.reduceAdd, Nat.reduceMul, Nat.zero_add, Nat.add_zero, Nat.mul_one, Nat.zero_mul, List.drop, List.take, List.toList_toArray, Value.cells, Int.reduceToNat, Int.toNat_natCast, List.getD, Option.getD, Option.map, flat, flat1, scal, if_true, ↓reduceIte])
                                                                        conv => (arg 6; try simp only [T.put, T.ev, putAt, setsT, newBlks, fillL, List.map, List.set, List.append, List.cons_append, List.nil_append, List.length, List.getElem?_cons_zero, List.getElem?_cons_succ, Nat.reduceAdd, Nat.reduceMul, Nat.zero_add, Nat.add_zero, Nat.mul_one, Nat.zero_mul, List.drop, List.take, List.toList_toArray, Value.cells, Int.reduceToNat, Int.toNat_natCast, List.getD, Option.getD, Option.map, flat, flat1, scal, if_true, ↓reduceIte])
                                                                        conv => (arg 5; try simp only [T.put, T.ev, putAt, setsT, newBlks, fillL, List.map, List.set, List.append, List.cons_append, List.nil_append, List.length, List.getElem?_cons_zero, List.getElem?_cons_succ, Nat.reduceAdd, Nat.reduceMul, Nat.zero_add, Nat.add_zero, Nat.mul_one, Nat.zero_mul, List.drop, List.take, List.toList_toArray, Value.cells, Int.reduceToNat, Int.toNat_natCast, List.getD, Option.getD, Option.map, flat, flat1, scal, if_true, ↓reduceIte])
                                                                        refine AL.nil ?_
                                                                        refine Then.n ?_
                                                                        refine AW.condT rfl rfl ?_
                                                                        refine AW.seq ?_
                                                                        refine AW.region ?_
                                                                        refine AL.q rfl (OQ.assign (by conv => lhs; whnf)) ?_
                                                                        conv => (arg 5; try simp only [T.put, T.ev, putAt, setsT, newBlks, fillL, List.map, List.set, List.append, List.cons_append, List.nil_append, List.length, List.getElem?_cons_zero, List.getElem?_cons_succ, Nat.reduceAdd, Nat.reduceMul, Nat.zero_add, Nat.add_zero, Nat.mul_one, Nat.zero_mul, List.drop, List.take, List.toList_toArray, Value.cells, Int.reduceToNat, Int.toNat_natCast, List.getD, Option.getD, Option.map, flat, flat1, scal, if_true, ↓reduceIte])
                                                                        refine AL.nil ?_
                                                                        refine Then.n ?_
                                                                        refine AW.ret ?_
                                                                        refine InB.r ?_
                                                                        refine Then.r ?_
                                                                        refine Then.r ?_
                                                                        refine InB.r ?_
                                                                        refine Then.r ?_
                                                                        refine FinP.ret (.tmp (by conv => lhs; whnf) .nil) ?_ rfl
                                                                        (try simp only [pack, List.drop, List.take])
                                                                        all_goals (rfl)
                                                                · have hc16_ := hc16; (try simp only [decide_eq_true_eq, decide_eq_false_iff_not, Bool.not_true, Bool.not_false, Bool.not_eq_true', Bool.not_eq_false', Int.not_lt, Int.not_le, Classical.not_not, ne_eq] at hc16_)
                                                                  first
                                                                  | (exfalso; simp at hc16_; done)
                                                                  | (exfalso; omega; done)
                                                                  | skip
                                                                    refine AW.exit ?_
                                                                    refine Then.x ?_
                                                                    refine Then.x ?_
                                                                    refine InB.hit ?_
                                                                    refine Then.n ?_
                                                                    refine AW.seq ?_
                                                                    refine AW.region ?_
                                                                    refine AL.q rfl (OQ.assign (by conv => lhs; whnf)) ?_
                                                                    conv => (arg 5; try simp only [T.put, T.ev, putAt, setsT, newBlks, fillL, List.map, List.set, List.append, List.cons_append, List.nil_append, List.length, List.getElem?_cons_zero, List.getElem?_cons_succ, Nat.reduceAdd, Nat.reduceMul, Nat.zero_add, Nat.add_zero, Nat.mul_one, Nat.zero_mul, List.drop, List.take, List.toList_toArray, Value.cells, Int.reduceToNat, Int.toNat_natCast, List.getD, Option.getD, Option.map, flat, flat1, scal, if_true, ↓reduceIte])
                                                                    refine AL.nil ?_
                                                                    refine Then.n ?_
                                                                    refine AW.ret ?_
                                                                    refine FinP.ret (.tmp (by conv => lhs; whnf) .nil) ?_ rfl
                                                                    (try simp only [pack, List.drop, List.take])
                                                                    all_goals (rfl)
                                                        · have hg14_ := hg14; (try simp only [decide_eq_true_eq, decide_eq_false_iff_not, Bool.not_true, Bool.not_false, Bool.not_eq_true', Bool.not_eq_false', Int.not_lt, Int.not_le, Classical.not_not, ne_eq] at hg14_)
                                                          first
                                                          | (exfalso; simp at hg14_; done)
                                                          | (exfalso; omega; done)
                                                          | skip
                                                            refine AD.gnoc rfl rfl hg14 rfl ?_
                                                            refine AD.gnoc rfl rfl hg14 rfl ?_
                                                            refine AD.gnoc rfl rfl hg14 rfl ?_
                                                            refine AD.gnoc rfl rfl hg14 rfl ?_
                                                            refine AD.gnoc rfl rfl hg14 rfl ?_
                                                            refine AD.gnoc rfl rfl hg14 rfl ?_
                                                            refine AD.gnoc rfl rfl hg14 rfl ?_
                                                            refine AD.gnoc rfl rfl hg14 rfl ?_
                                                            refine AD.gnoc rfl rfl hg14 rfl ?_
                                                            refine AD.q rfl (OQ.pickT rfl hg14 (by conv => lhs; whnf)) rfl rfl rfl ?_
                                                            conv => (arg 10; try simp only [T.put, T.ev, putAt, setsT, newBlks, fillL, List.map, List.set, List.append, List.cons_append, List.nil_append, List.length, List.getElem?_cons_zero, List.getElem?_cons_succ, Nat.reduceAdd, Nat.reduceMul, Nat.zero_add, Nat.add_zero, Nat.mul_one, Nat.zero_mul, List.drop, List.take, List.toList_toArray, Value.cells, Int.reduceToNat, Int.toNat_natCast, List.getD, Option.getD, Option.map, flat, flat1, scal, if_true, ↓reduceIte])
                                                            refine AD.nil ?_
                                                            conv => (arg 5; try simp only [T.put, T.ev, putAt, setsT, newBlks, fillL, List.map, List.set, List.append, List.cons_append, List.nil_append, List.length, List.getElem?_cons_zero, List.getElem?_cons_succ, Nat.reduceAdd, Nat.reduceMul, Nat.zero_add, Nat.add_zero, Nat.mul_one, Nat.zero_mul, List.drop, List.take, List.toList_toArray, Value.cells, Int.reduceToNat, Int.toNat_natCast, List.getD, Option.getD, Option.map, flat, flat1, scal, if_true, ↓reduceIte])
                                                            conv => (arg 6; try simp only [T.put, T.ev, putAt, setsT, newBlks, fillL, List.map, List.set, List.append, List.cons_append, List.nil_append, List.length, List.getElem?_cons_zero, List.getElem?_cons_succ, Nat.reduceAdd, Nat.reduceMul, Nat.zero_add, Nat.add_zero, Nat.mul_one, Nat.zero_mul, List.drop, List.take, List.toList_toArray, Value.cells, Int.reduceToNat, Int.toNat_natCast, List.getD, Option.getD, Option.map, flat, flat1, scal, if_true, ↓reduceIte])
                                                            conv => (arg 5; try simp only [T.put, T.ev, putAt, setsT, newBlks, fillL, List.map, List.set, List.append, List.cons_append, List.nil_append, List.length, List.getElem?_cons_zero, List.getElem?_cons_succ, Nat.reduceAdd, Nat.reduceMul, Nat.zero_add, Nat.add_zero, Nat.mul_one, Nat.zero_mul, List.drop, List.take, List.toList_toArray, Value.cells, Int.reduceToNat, Int.toNat_natCast, List.getD, Option.getD, Option.map, flat, flat1, scal, if_true, ↓reduceIte])
                                                            refine AL.nil ?_
                                                            refine Then.n ?_
                                                            refine AW.condT rfl rfl ?_
                                                            refine AW.seq ?_
                                                            refine AW.region ?_
                                                            refine AL.q rfl (OQ.assign (by conv => lhs; whnf)) ?_
                                                            conv => (arg 5; try simp only [T.put, T.ev, putAt, setsT, newBlks, fillL, List.map, List.set, List.append, List.cons_append, List.nil_append, List.length, List.getElem?_cons_zero, List.getElem?_cons_succ, Nat.reduceAdd, Nat.reduceMul, Nat.zero_add, Nat.add_zero, Nat.mul_one, Nat.zero_mul, List.drop, List.take, List.toList_toArray, Value.cells, Int.reduceToNat, Int.toNat_natCast, List.getD, Option.getD, Option.map, flat, flat1, scal, if_true, ↓reduceIte])
                                                            refine AL.nil ?_
                                                            refine Then.n ?_
                                                            refine AW.ret ?_
                                                            refine InB.r ?_
                                                            refine Then.r ?_
                                                            refine Then.r ?_
                                                            refine InB.r ?_
                                                            refine Then.r ?_
                                                            refine FinP.ret (.tmp (by conv => lhs; whnf) .nil) ?_ rfl
                                                            (try simp only [pack, List.drop, List.take])
                                                            all_goals (rfl)
                                                    · have hc13_ := hc13; (try simp only [decide_eq_true_eq, decide_eq_false_iff_not, Bool.not_true, Bool.not_false, Bool.not_eq_true', Bool.not_eq_false', Int.not_lt, Int.not_le, Classical.not_not, ne_eq] at hc13_)
                                                      first
                                                      | (exfalso; simp at hc13_; done)
                                                      | (exfalso; omega; done)
                                                      | skip
                                                        refine AW.exit ?_
                                                        refine Then.x ?_
                                                        refine Then.x ?_
                                                        refine InB.hit ?_
                                                        refine Then.n ?_
                                                        refine AW.seq ?_
                                                        refine AW.region ?_
                                                        refine AL.q rfl (OQ.assign (by conv => lhs; whnf)) ?_
                                                        conv => (arg 5; try simp only [T.put, T.ev, putAt, setsT, newBlks, fillL, List.map, List.set, List.append, List.cons_append, List.nil_append, List.length, List.getElem?_cons_zero, List.getElem?_cons_succ, Nat.reduceAdd, Nat.reduceMul, Nat.zero_add, Nat.add_zero, Nat.mul_one, Nat.zero_mul, List.drop, List.take, List.toList_toArray, Value.cells, Int.reduceToNat, Int.toNat_natCast, List.getD, Option.getD, Option.map, flat, flat1, scal, if_true, ↓reduceIte])
                                                        refine AL.nil ?_
                                                        refine Then.n ?_
                                                        refine AW.ret ?_
                                                        refine FinP.ret (.tmp (by conv => lhs; whnf) .nil) ?_ rfl
                                                        (try simp only [pack, List.drop, List.take])
                                                        all_goals (rfl)
                                            · have hg11_ := hg11; (try simp only [decide_eq_true_eq, decide_eq_false_iff_not, Bool.not_true, Bool.not_false, Bool.not_eq_true', Bool.not_eq_false', Int.not_lt, Int.not_le, Classical.not_not, ne_eq] at hg11_)
                                              first
                                              | (exfalso; simp at hg11_; done)
                                              | (exfalso; omega; done)
                                              | skip
                                                refine AL.gno rfl rfl hg11 ?_
                                                refine AL.gno rfl rfl hg11 ?_
                                                refine AL.q rfl (OQ.pickT rfl hg11 (by conv => lhs; whnf)) ?_
                                                conv => (arg 5; try simp only [T.put, T.ev, putAt, setsT, newBlks, fillL, List.map, List.set, List.append, List.cons_append, List.nil_append, List.length, List.getElem?_cons_zero, List.getElem?_cons_succ, Nat.reduceAdd, Nat.reduceMul, Nat.zero_add, Nat.add_zero, Nat.mul_one, Nat.zero_mul, List.drop, List.take, List.toList_toArray, Value.cells, Int.reduceToNat, Int.toNat_natCast, List.getD, Option.getD, Option.map, flat, flat1, scal, if_true, ↓reduceIte])
                                                refine AL.nil ?_
                                                refine Then.n ?_
                                                refine AW.condT rfl rfl ?_
                                                refine AW.seq ?_
                                                refine AW.region ?_
                                                refine AL.q rfl (OQ.assign (by conv => lhs; whnf)) ?_
                                                conv => (arg 5; try simp only [T.put, T.ev, putAt, setsT, newBlks, fillL, List.map, List.set, List.append, List.cons_append, List.nil_append, List.length, List.getElem?_cons_zero, List.getElem?_cons_succ, Nat.reduceAdd, Nat.reduceMul, Nat.zero_add, Nat.add_zero, Nat.mul_one, Nat.zero_mul, List.drop, List.take, List.toList_toArray, Value.cells, Int.reduceToNat, Int.toNat_natCast, List.getD, Option.getD, Option.map, flat, flat1, scal, if_true, ↓reduceIte])
                                                refine AL.nil ?_
                                                refine Then.n ?_
                                                refine AW.ret ?_
                                                refine Then.r ?_
                                                refine FinP.ret (.tmp (by conv => lhs; whnf) .nil) ?_ rfl
                                                (try simp only [pack, List.drop, List.take])
                                                all_goals (rfl)
                                        · have hg10_ := hg10; (try simp only [decide_eq_true_eq, decide_eq_false_iff_not, Bool.not_true, Bool.not_false, Bool.not_eq_true', Bool.not_eq_false', Int.not_lt, Int.not_le, Classical.not_not, ne_eq] at hg10_)
                                          first
                                          | (exfalso; simp at hg10_; done)
                                          | (exfalso; omega; done)
                                          | skip
                                            refine AL.gno rfl rfl hg10 ?_
                                            refine AL.q rfl (OQ.pickT rfl hg10 (by conv => lhs; whnf)) ?_
                                            refine AL.q rfl (OQ.move (by conv => lhs; whnf)) ?_
                                            conv => (arg 5; try simp only [T.put, T.ev, putAt, setsT, newBlks, fillL, List.map, List.set, List.append, List.cons_append, List.nil_append, List.length, List.getElem?_cons_zero, List.getElem?_cons_succ, Nat.reduceAdd, Nat.reduceMul, Nat.zero_add, Nat.add_zero, Nat.mul_one, Nat.zero_mul, List.drop, List.take, List.toList_toArray, Value.cells, Int.reduceToNat, Int.toNat_natCast, List.getD, Option.getD, Option.map, flat, flat1, scal, if_true, ↓reduceIte])
                                            refine AL.gno rfl rfl rfl ?_
                                            refine AL.gno rfl rfl rfl ?_
                                            refine AL.gno rfl rfl rfl ?_
                                            refine AL.q rfl (OQ.pickT rfl rfl (by conv => lhs; whnf)) ?_
                                            conv => (arg 5; try simp only [T.put, T.ev, putAt, setsT, newBlks, fillL, List.map, List.set, List.append, List.cons_append, List.nil_append, List.length, List.getElem?_cons_zero, List.getElem?_cons_succ, Nat.reduceAdd, Nat.reduceMul, Nat.zero_add, Nat.add_zero, Nat.mul_one, Nat.zero_mul, List.drop, List.take, List.toList_toArray, Value.cells, Int.reduceToNat, Int.toNat_natCast, List.getD, Option.getD, Option.map, flat, flat1, scal, if_true, ↓reduceIte])
                                            refine AL.nil ?_
                                            refine Then.n ?_
                                            refine AW.condT rfl rfl ?_
                                            refine AW.seq ?_
                                            refine AW.region ?_
                                            refine AL.q rfl (OQ.assign (by conv => lhs; whnf)) ?_
                                            conv => (arg 5; try simp only [T.put, T.ev, putAt, setsT, newBlks, fillL, List.map, List.set, List.append, List.cons_append, List.nil_append, List.length, List.getElem?_cons_zero, List.getElem?_cons_succ, Nat.reduceAdd, Nat.reduceMul, Nat.zero_add, Nat.add_zero, Nat.mul_one, Nat.zero_mul, List.drop, List.take, List.toList_toArray, Value.cells, Int.reduceToNat, Int.toNat_natCast, List.getD, Option.getD, Option.map, flat, flat1, scal, if_true, ↓reduceIte])
                                            refine AL.nil ?_
                                            refine Then.n ?_
                                            refine AW.ret ?_
                                            refine Then.r ?_
                                            refine FinP.ret (.tmp (by conv => lhs; whnf) .nil) ?_ rfl
                                            (try simp only [pack, List.drop, List.take])
                                            all_goals (rfl)
                                    · have hg9_ := hg9; (try simp only [decide_eq_true_eq, decide_eq_false_iff_not, Bool.not_true, Bool.not_false, Bool.not_eq_true', Bool.not_eq_false', Int.not_lt, Int.not_le, Classical.not_not, ne_eq] at hg9_)
                                      first
                                      | (exfalso; simp at hg9_; done)
                                      | (exfalso; omega; done)
                                      | skip
                                        refine AL.gno rfl rfl hg9 ?_
                                        refine AL.q rfl (OQ.pickT rfl hg9 (by conv => lhs; whnf)) ?_
                                        refine AL.q rfl (OQ.move (by conv => lhs; whnf)) ?_
                                        refine AL.gno rfl rfl rfl ?_
                                        refine AL.gno rfl rfl rfl ?_
                                        refine AL.q rfl (OQ.pickT rfl rfl (by conv => lhs; whnf)) ?_
                                        refine AL.q rfl (OQ.move (by conv => lhs; whnf)) ?_
                                        refine AL.gno rfl rfl rfl ?_
                                        refine AL.gno rfl rfl rfl ?_
                                        refine AL.gno rfl rfl rfl ?_
                                        refine AL.q rfl (OQ.pickT rfl rfl (by conv => lhs; whnf)) ?_
                                        conv => (arg 5; try simp only [T.put, T.ev, putAt, setsT, newBlks, fillL, List.map, List.set, List.append, List.cons_append, List.nil_append, List.length, List.getElem?_cons_zero, List.getElem?_cons_succ, Nat.reduceAdd, Nat.reduceMul, Nat.zero_add, Nat.add_zero, Nat.mul_one, Nat.zero_mul, List.drop, List.take, List.toList_toArray, Value.cells, Int.reduceToNat, Int.toNat_natCast, List.getD, Option.getD, Option.map, flat, flat1, scal, if_true, ↓reduceIte])
                                        refine AL.nil ?_
                                        refine Then.n ?_
                                        refine AW.condT rfl rfl ?_
                                        refine AW.seq ?_
                                        refine AW.region ?_
                                        refine AL.q rfl (OQ.assign (by conv => lhs; whnf)) ?_
                                        conv => (arg 5; try simp only [T.put, T.ev, putAt, setsT, newBlks, fillL, List.map, List.set, List.append, List.cons_append, List.nil_append, List.length, List.getElem?_cons_zero, List.getElem?_cons_succ, Nat.reduceAdd, Nat.reduceMul, Nat.zero_add, Nat.add_zero, Nat.mul_one, Nat.zero_mul, List.drop, List.take, List.toList_toArray, Value.cells, Int.reduceToNat, Int.toNat_natCast, List.getD, Option.getD, Option.map, flat, flat1, scal, if_true, ↓reduceIte])
                                        refine AL.nil ?_
                                        refine Then.n ?_
                                        refine AW.ret ?_
                                        refine Then.r ?_
                                        refine FinP.ret (.tmp (by conv => lhs; whnf) .nil) ?_ rfl
                                        (try simp only [pack, List.drop, List.take])
                                        all_goals (rfl)
                                · have hg8_ := hg8; (try simp only [decide_eq_true_eq, decide_eq_false_iff_not, Bool.not_true, Bool.not_false, Bool.not_eq_true', Bool.not_eq_false', Int.not_lt, Int.not_le, Classical.not_not, ne_eq] at hg8_)
                                  first
                                  | (exfalso; simp at hg8_; done)
                                  | (exfalso; omega; done)
                                  | skip
                                    refine AL.gno rfl rfl hg8 ?_
                                    refine AL.q rfl (OQ.pickT rfl hg8 (by conv => lhs; whnf)) ?_
                                    refine AL.q rfl (OQ.move (by conv => lhs; whnf)) ?_
                                    refine AL.gno rfl rfl rfl ?_
                                    refine AL.gno rfl rfl rfl ?_
                                    refine AL.q rfl (OQ.pickT rfl rfl (by conv => lhs; whnf)) ?_
                                    conv => (arg 5; try simp only [T.put, T.ev, putAt, setsT, newBlks, fillL, List.map, List.set, List.append, List.cons_append, List.nil_append, List.length, List.getElem?_cons_zero, List.getElem?_cons_succ, Nat.reduceAdd, Nat.reduceMul, Nat.zero_add, Nat.add_zero, Nat.mul_one, Nat.zero_mul, List.drop, List.take, List.toList_toArray, Value.cells, Int.reduceToNat, Int.toNat_natCast, List.getD, Option.getD, Option.map, flat, flat1, scal, if_true, ↓reduceIte])
                                    refine AL.q rfl (OQ.move (by conv => lhs; whnf)) ?_
                                    refine AL.gno rfl rfl rfl ?_
                                    refine AL.gno rfl rfl rfl ?_
                                    refine AL.q rfl (OQ.pickT rfl rfl (by conv => lhs; whnf)) ?_
                                    refine AL.q rfl (OQ.move (by conv => lhs; whnf)) ?_
                                    refine AL.gno rfl rfl rfl ?_
                                    refine AL.gno rfl rfl rfl ?_
                                    refine AL.gno rfl rfl rfl ?_
                                    refine AL.q rfl (OQ.pickT rfl rfl (by conv => lhs; whnf)) ?_
                                    conv => (arg 5; try simp only [T.put, T.ev, putAt, setsT, newBlks, fillL, List.map, List.set, List.append, List.cons_append, List.nil_append, List.length, List.getElem?_cons_zero, List.getElem?_cons_succ, Nat.reduceAdd, Nat.reduceMul, Nat.zero_add, Nat.add_zero, Nat.mul_one, Nat.zero_mul, List.drop, List.take, List.toList_toArray, Value.cells, Int.reduceToNat, Int.toNat_natCast, List.getD, Option.getD, Option.map, flat, flat1, scal, if_true, ↓reduceIte])
                                    refine AL.nil ?_
                                    refine Then.n ?_
                                    refine AW.condT rfl rfl ?_
                                    refine AW.seq ?_
                                    refine AW.region ?_
                                    refine AL.q rfl (OQ.assign (by conv => lhs; whnf)) ?_
                                    conv => (arg 5; try simp only [T.put, T.ev, putAt, setsT, newBlks, fillL, List.map, List.set, List.append, List.cons_append, List.nil_append, List.length, List.getElem?_cons_zero, List.getElem?_cons_succ, Nat.reduceAdd, Nat.reduceMul, Nat.zero_add, Nat.add_zero, Nat.mul_one, Nat.zero_mul, List.drop, List.take, List.toList_toArray, Value.cells, Int.reduceToNat, Int.toNat_natCast, List.getD, Option.getD, Option.map, flat, flat1, scal, if_true, ↓reduceIte])
                                    refine AL.nil ?_
                                    refine Then.n ?_
                                    refine AW.ret ?_
                                    refine Then.r ?_
                                    refine FinP.ret (.tmp (by conv => lhs; whnf) .nil) ?_ rfl
                                    (try simp only [pack, List.drop, List.take])
                                    all_goals (rfl)
              · have hg4_ := hg4; (try simp only [decide_eq_true_eq, decide_eq_false_iff_not, Bool.not_true, Bool.not_false, Bool.not_eq_true', Bool.not_eq_false', Int.not_lt, Int.not_le, Classical.not_not, ne_eq] at hg4_)
                first
                | (exfalso; simp at hg4_; done)
                | (exfalso; omega; done)
                | skip
                  refine AL.gno rfl rfl hg4 ?_
                  refine AL.gno rfl rfl hg4 ?_
                  refine AL.gno rfl rfl hg4 ?_
                  refine AL.q rfl (OQ.pickT rfl hg4 (by conv => lhs; whnf)) ?_
                  conv => (arg 5; try simp only [T.put, T.ev, putAt, setsT, newBlks, fillL, List.map, List.set, List.append, List.cons_append, List.nil_append, List.length, List.getElem?_cons_zero, List.getElem?_cons_succ, Nat.reduceAdd, Nat.reduceMul, Nat.zero_add, Nat.add_zero, Nat.mul_one, Nat.zero_mul, List.drop, List.take, List.toList_toArray, Value.cells, Int.reduceToNat, Int.toNat_natCast, List.getD, Option.getD, Option.map, flat, flat1, scal, if_true, ↓reduceIte])
                  refine AL.nil ?_
                  refine Then.n ?_
                  refine AW.condT rfl rfl ?_
                  refine AW.seq ?_
                  refine AW.region ?_
                  refine AL.q rfl (OQ.assign (by conv => lhs; whnf)) ?_
                  conv => (arg 5; try simp only [T.put, T.ev, putAt, setsT, newBlks, fillL, List.map, List.set, List.append, List.cons_append, List.nil_append, List.length, List.getElem?_cons_zero, List.getElem?_cons_succ, Nat.reduceAdd, Nat.reduceMul, Nat.zero_add, Nat.add_zero, Nat.mul_one, Nat.zero_mul, List.drop, List.take, List.toList_toArray, Value.cells, Int.reduceToNat, Int.toNat_natCast, List.getD, Option.getD, Option.map, flat, flat1, scal, if_true, ↓reduceIte])
                  refine AL.nil ?_
                  refine Then.n ?_
                  refine AW.ret ?_
                  refine Then.r ?_
                  refine FinP.ret (.tmp (by conv => lhs; whnf) .nil) ?_ rfl
                  (try simp only [pack, List.drop, List.take])
                  all_goals (rfl)
          · have hg3_ := hg3; (try simp only [decide_eq_true_eq, decide_eq_false_iff_not, Bool.not_true, Bool.not_false, Bool.not_eq_true', Bool.not_eq_false', Int.not_lt, Int.not_le, Classical.not_not, ne_eq] at hg3_)
            first
            | (exfalso; simp at hg3_; done)
            | (exfalso; omega; done)
            | skip
              refine AL.gno rfl rfl hg3 ?_
              refine AL.gno rfl rfl hg3 ?_
              refine AL.gno rfl rfl hg3 ?_
              refine AL.q rfl (OQ.pickT rfl hg3 (by conv => lhs; whnf)) ?_
              refine AL.q rfl (OQ.move (by conv => lhs; whnf)) ?_
              refine AL.gno rfl rfl rfl ?_
              refine AL.gno rfl rfl rfl ?_
              refine AL.gno rfl rfl rfl ?_
              refine AL.gno rfl rfl rfl ?_
              refine AL.q rfl (OQ.pickT rfl rfl (by conv => lhs; whnf)) ?_
              conv => (arg 5; try simp only [T.put, T.ev, putAt, setsT, newBlks, fillL, List.map, List.set, List.append, List.cons_append, List.nil_append, List.length, List.getElem?_cons_zero, List.getElem?_cons_succ, Nat.reduceAdd, Nat.reduceMul, Nat.zero_add, Nat.add_zero, Nat.mul_one, Nat.zero_mul, List.drop, List.take, List.toList_toArray, Value.cells, Int.reduceToNat, Int.toNat_natCast, List.getD, Option.getD, Option.map, flat, flat1, scal, if_true, ↓reduceIte])
              refine AL.nil ?_
              refine Then.n ?_
              refine AW.condT rfl rfl ?_
              refine AW.seq ?_
              refine AW.region ?_
              refine AL.q rfl (OQ.assign (by conv => lhs; whnf)) ?_
              conv => (arg 5; try simp only [T.put, T.ev, putAt, setsT, newBlks, fillL, List.map, List.set, List.append, List.cons_append, List.nil_append, List.length, List.getElem?_cons_zero, List.getElem?_cons_succ, Nat.reduceAdd, Nat.reduceMul, Nat.zero_add, Nat.add_zero, Nat.mul_one, Nat.zero_mul, List.drop, List.take, List.toList_toArray, Value.cells, Int.reduceToNat, Int.toNat_natCast, List.getD, Option.getD, Option.map, flat, flat1, scal, if_true, ↓reduceIte])
              refine AL.nil ?_
              refine Then.n ?_
              refine AW.ret ?_
              refine Then.r ?_
              refine FinP.ret (.tmp (by conv => lhs; whnf) .nil) ?_ rfl
              (try simp only [pack, List.drop, List.take])
              all_goals (rfl)
      · have hg2_ := hg2; (try simp only [decide_eq_true_eq, decide_eq_false_iff_not, Bool.not_true, Bool.not_false, Bool.not_eq_true', Bool.not_eq_false', Int.not_lt, Int.not_le, Classical.not_not, ne_eq] at hg2_)
        first
        | (exfalso; simp at hg2_; done)
        | (exfalso; omega; done)
        | skip
          refine AL.gno rfl rfl hg2 ?_
          refine AL.gno rfl rfl hg2 ?_
          refine AL.gno rfl rfl hg2 ?_
          refine AL.q rfl (OQ.pickT rfl hg2 (by conv => lhs; whnf)) ?_
          refine AL.q rfl (OQ.move (by conv => lhs; whnf)) ?_
          refine AL.gno rfl rfl rfl ?_
          refine AL.gno rfl rfl rfl ?_
          refine AL.gno rfl rfl rfl ?_
          refine AL.gno rfl rfl rfl ?_
          refine AL.q rfl (OQ.pickT rfl rfl (by conv => lhs; whnf)) ?_
          refine AL.q rfl (OQ.move (by conv => lhs; whnf)) ?_
          refine AL.gno rfl rfl rfl ?_
          refine AL.gno rfl rfl rfl ?_
          refine AL.gno rfl rfl rfl ?_
          refine AL.gno rfl rfl rfl ?_
          refine AL.q rfl (OQ.pickT rfl rfl (by conv => lhs; whnf)) ?_
          conv => (arg 5; try simp only [T.put, T.ev, putAt, setsT, newBlks, fillL, List.map, List.set, List.append, List.cons_append, List.nil_append, List.length, List.getElem?_cons_zero, List.getElem?_cons_succ, Nat.reduceAdd, Nat.reduceMul, Nat.zero_add, Nat.add_zero, Nat.mul_one, Nat.zero_mul, List.drop, List.take, List.toList_toArray, Value.cells, Int.reduceToNat, Int.toNat_natCast, List.getD, Option.getD, Option.map, flat, flat1, scal, if_true, ↓reduceIte])
          refine AL.nil ?_
          refine Then.n ?_
          refine AW.condT rfl rfl ?_
          refine AW.seq ?_
          refine AW.region ?_
          refine AL.q rfl (OQ.assign (by conv => lhs; whnf)) ?_
          conv => (arg 5; try simp only [T.put, T.ev, putAt, setsT, newBlks, fillL, List.map, List.set, List.append, List.cons_append, List.nil_append, List.length, List.getElem?_cons_zero, List.getElem?_cons_succ, Nat.reduceAdd, Nat.reduceMul, Nat.zero_add, Nat.add_zero, Nat.mul_one, Nat.zero_mul, List.drop, List.take, List.toList_toArray, Value.cells, Int.reduceToNat, Int.toNat_natCast, List.getD, Option.getD, Option.map, flat, flat1, scal, if_true, ↓reduceIte])
          refine AL.nil ?_
          refine Then.n ?_
          refine AW.ret ?_
          refine Then.r ?_
          refine FinP.ret (.tmp (by conv => lhs; whnf) .nil) ?_ rfl
          (try simp only [pack, List.drop, List.take])
          all_goals (rfl)

set_option maxHeartbeats 8000000 in
/-- The same, where the wider orbit is none. -/
theorem none_p (nm : ByteArray) (bd we wb t : Int) (l : List St) (hnm : nm.size ≤ 1000) (hR : Right bd l) (hA : atE nm.data.toList bd l t = 0) (hf : fewB nm.size l.length = true) (hwe : 0 ≤ we ∧ we ≤ 100000) (hwb : 0 ≤ wb ∧ wb ≤ 100000)
    (hY : (orbE nm.data.toList (bd + wb) (l.map (wid we))).2 ≠ 0) :
    PCalls Try.prog 5 [obN nm bd 0 l.length, .agg #[.int .i64 we, .int .i64 wb], .int .i64 t] [some ⟨flatS l, false, 0⟩] (.bool true) := by
  have hn2 := hR.n2
  have hn40 := hR.n40
  have hb0 := hR.b0
  have hb1 := hR.b1
  have hwf : ∀ k, k < l.length → -9223372036854775808 ≤ (at_ l k).t ∧ (at_ l k).t ≤ 9223372036854775807 := fun k hk => by
    obtain ⟨h1, h2, _⟩ := hR.ok k hk
    omega
  have hlen : (l.map (wid we)).length = l.length := by simp
  have hwf' : ∀ k, k < (l.map (wid we)).length → -9223372036854775808 ≤ (at_ (l.map (wid we)) k).t ∧ (at_ (l.map (wid we)) k).t ≤ 9223372036854775807 := fun k hk => by
    rw [at_wid (by omega)]
    exact hwf k (by omega)
  have HAw : ∀ m : Mem, PCalls Try.prog 15 [] m (.bool true) := fun m => PCalls.of_calls rfl rfl fun w => awake_any w
  have HF : ∀ m : Mem, m.at 0 = some ⟨flatS l, false, 0⟩ → PCalls Try.prog 25 [obN nm bd 0 l.length] m (.bool true) := fun m hm => of_ob (us := []) hm rfl rfl (by omega) rfl rfl fun w b' off cap hS hbw hcap => by
    have := Few_any nm bd (some ⟨b', off, none⟩) l.length cap w (by omega) (by omega)
    rw [hf] at this
    exact this
  have HT : ∀ m : Mem, m.at 0 = some ⟨flatS l, false, 0⟩ → PCalls Try.prog 28 [obN nm bd 0 l.length, .int .i64 t] m (.int .i64 0) := fun m hm => of_ob (us := [_]) hm rfl rfl (by omega) rfl rfl fun w b' off cap hS hbw hcap => by
    have := tickErr_any nm bd t (some ⟨b', off, none⟩) cap l w (OrbIn.mk' hnm hwf hS hbw hcap (by omega))
    rw [hA] at this
    exact this
  have HW : ∀ (x : Int) (m : Mem), 0 ≤ x ∧ x ≤ 100000 → PCalls Try.prog 21 [.int .i64 x, .int .i64 0, .int .i64 100000] m (.bool true) := fun x m hx => PCalls.of_same rfl rfl fun w => by
    have := rWithin_any x 0 100000 w
    rw [show rngB x 0 100000 = true from rngB_true.2 hx] at this
    exact this
  have HC : ∀ m : Mem, m.at 0 = some ⟨flatS l, false, 0⟩ → ACalls Try.prog 18 [obN nm bd 0 l.length] m (obN nm bd m.length l.length) (m ++ [some ⟨flatS l, true, 5⟩]) := fun m hm => Copy_p nm bd l hm rfl rfl (by omega) (by omega)
  have HE : ∀ (m : Mem) (b : Nat), m.at b = some ⟨flatS (l.map (wid we)), true, 5⟩ → PCalls Try.prog 19 [obN nm (bd + wb) b l.length] m (.int .i64 (orbE nm.data.toList (bd + wb) (l.map (wid we))).2) := fun m b hm => of_ob (us := []) hm rfl hlen (by omega) rfl rfl fun w b' off cap hS hbw hcap =>
    Err_any nm (bd + wb) (some ⟨b', off, none⟩) cap (l.map (wid we)) w (OrbIn.mk' hnm hwf' hS hbw hcap (by omega))
  have hok : ∀ k, k < l.length → 0 ≤ (at_ l k).e ∧ (at_ l k).e ≤ 100000 := fun k hk => by
    obtain ⟨_, _, _, _, _, _, _, _, h9, h10⟩ := hR.ok k hk
    exact ⟨h9, h10⟩
  have hwall : widTo we l l.length = l.map (wid we) := widTo_all (Nat.le_refl _)
  have hget : ∀ k, k < l.length → (flatS (widTo we l k))[k * 5 + 4]? = some (.int .i64 (at_ l k).e) := fun k hk => by
    rw [flatS_get _ k 4 (by omega) (by rw [widTo_len]; exact hk), at_widTo hk]
    rfl
  clear hA hf hR hwf hwf'
  generalize (orbE nm.data.toList (bd + wb) (l.map (wid we))).2 = c at *
  refine PCalls.enter (t := [obN nm bd 0 l.length, .agg #[.int .i64 we, .int .i64 wb], .int .i64 t, undef, undef, undef, undef, undef, undef, undef, undef, undef, undef, undef, undef, undef, undef, undef, undef, undef, undef, undef, undef, undef, undef, undef, undef, undef, undef, undef, undef, undef, undef, undef, undef, undef, undef, undef, undef, undef, undef, undef, undef, undef, undef, undef, undef, undef, undef, undef, undef, undef, undef, undef, undef, undef, undef, undef, undef, undef, undef, undef, undef, undef, undef, undef, undef, undef, undef, undef, undef, undef, undef, undef, undef, undef, undef, undef, undef, undef, undef, undef, undef, undef, undef, undef, undef, undef, undef, undef, undef, undef, undef, undef, undef, undef, undef, undef, undef, undef, undef, undef, undef, undef, undef, undef, undef, undef, undef, undef, undef, undef, undef, undef, undef, undef, undef, undef, undef, undef, undef, undef, undef, undef, undef, undef, undef, undef, undef, undef, undef, undef, undef, undef, undef, undef, undef, undef, undef, undef, undef, undef, undef]) Try.func5 rfl (ro_one _ _) rfl fun E => ?_
  refine AW.seq ?_
  refine AW.region ?_
  refine AL.w rfl (OW.box (by conv => lhs; whnf) (by intro r h; cases h)) ?_
  conv => (arg 5; try simp only [T.put, T.ev, putAt, setsT, newBlks, fillL, List.map, List.set, List.append, List.cons_append, List.nil_append, List.length, List.getElem?_cons_zero, List.getElem?_cons_succ, Nat.reduceAdd, Nat.reduceMul, Nat.zero_add, Nat.add_zero, Nat.mul_one, Nat.zero_mul, List.drop, List.take, List.toList_toArray, Value.cells, Int.reduceToNat, Int.toNat_natCast, List.getD, Option.getD, Option.map, flat, flat1, scal, if_true, ↓reduceIte])
  conv => (arg 6; try simp only [T.put, T.ev, putAt, setsT, newBlks, fillL, List.map, List.set, List.append, List.cons_append, List.nil_append, List.length, List.getElem?_cons_zero, List.getElem?_cons_succ, Nat.reduceAdd, Nat.reduceMul, Nat.zero_add, Nat.add_zero, Nat.mul_one, Nat.zero_mul, List.drop, List.take, List.toList_toArray, Value.cells, Int.reduceToNat, Int.toNat_natCast, List.getD, Option.getD, Option.map, flat, flat1, scal, if_true, ↓reduceIte])
  refine AL.w rfl (OW.box (by conv => lhs; whnf) (by intro r h; cases h)) ?_
  conv => (arg 5; try simp only [T.put, T.ev, putAt, setsT, newBlks, fillL, List.map, List.set, List.append, List.cons_append, List.nil_append, List.length, List.getElem?_cons_zero, List.getElem?_cons_succ, Nat.reduceAdd, Nat.reduceMul, Nat.zero_add, Nat.add_zero, Nat.mul_one, Nat.zero_mul, List.drop, List.take, List.toList_toArray, Value.cells, Int.reduceToNat, Int.toNat_natCast, List.getD, Option.getD, Option.map, flat, flat1, scal, if_true, ↓reduceIte])
  conv => (arg 6; try simp only [T.put, T.ev, putAt, setsT, newBlks, fillL, List.map, List.set, List.append, List.cons_append, List.nil_append, List.length, List.getElem?_cons_zero, List.getElem?_cons_succ, Nat.reduceAdd, Nat.reduceMul, Nat.zero_add, Nat.add_zero, Nat.mul_one, Nat.zero_mul, List.drop, List.take, List.toList_toArray, Value.cells, Int.reduceToNat, Int.toNat_natCast, List.getD, Option.getD, Option.map, flat, flat1, scal, if_true, ↓reduceIte])
  refine AL.q rfl (OQ.assign (by conv => lhs; whnf)) ?_
  conv => (arg 5; try simp only [T.put, T.ev, putAt, setsT, newBlks, fillL, List.map, List.set, List.append, List.cons_append, List.nil_append, List.length, List.getElem?_cons_zero, List.getElem?_cons_succ, Nat.reduceAdd, Nat.reduceMul, Nat.zero_add, Nat.add_zero, Nat.mul_one, Nat.zero_mul, List.drop, List.take, List.toList_toArray, Value.cells, Int.reduceToNat, Int.toNat_natCast, List.getD, Option.getD, Option.map, flat, flat1, scal, if_true, ↓reduceIte])
  refine AL.nil ?_
  refine Then.n ?_
  refine AW.seq ?_
  refine AW.seq ?_
  refine AW.region ?_
  refine AL.pcall rfl (by kernel_rfl) rfl (HAw _) ?_
  conv => (arg 5; try simp only [T.put, T.ev, putAt, setsT, newBlks, fillL, List.map, List.set, List.append, List.cons_append, List.nil_append, List.length, List.getElem?_cons_zero, List.getElem?_cons_succ, Nat.reduceAdd, Nat.reduceMul, Nat.zero_add, Nat.add_zero, Nat.mul_one, Nat.zero_mul, List.drop, List.take, List.toList_toArray, Value.cells, Int.reduceToNat, Int.toNat_natCast, List.getD, Option.getD, Option.map, flat, flat1, scal, if_true, ↓reduceIte])
  refine AL.q rfl (OQ.not rfl) ?_
  conv => (arg 5; try simp only [T.put, T.ev, putAt, setsT, newBlks, fillL, List.map, List.set, List.append, List.cons_append, List.nil_append, List.length, List.getElem?_cons_zero, List.getElem?_cons_succ, Nat.reduceAdd, Nat.reduceMul, Nat.zero_add, Nat.add_zero, Nat.mul_one, Nat.zero_mul, List.drop, List.take, List.toList_toArray, Value.cells, Int.reduceToNat, Int.toNat_natCast, List.getD, Option.getD, Option.map, flat, flat1, scal, if_true, ↓reduceIte])
  refine AL.nil ?_
  refine Then.n ?_
  refine AW.cond rfl (fun hc1 => ?_) (fun hc1 => ?_)
  · have hc1_ := hc1; (try simp only [decide_eq_true_eq, decide_eq_false_iff_not, Bool.not_true, Bool.not_false, Bool.not_eq_true', Bool.not_eq_false', Int.not_lt, Int.not_le, Classical.not_not, ne_eq] at hc1_)
    first
    | (exfalso; simp at hc1_; done)
    | (exfalso; omega; done)
    | skip
      refine AW.seq ?_
      refine AW.region ?_
      refine AL.q rfl (OQ.assign (by conv => lhs; whnf)) ?_
      conv => (arg 5; try simp only [T.put, T.ev, putAt, setsT, newBlks, fillL, List.map, List.set, List.append, List.cons_append, List.nil_append, List.length, List.getElem?_cons_zero, List.getElem?_cons_succ, Nat.reduceAdd, Nat.reduceMul, Nat.zero_add, Nat.add_zero, Nat.mul_one, Nat.zero_mul, List.drop, List.take, List.toList_toArray, Value.cells, Int.reduceToNat, Int.toNat_natCast, List.getD, Option.getD, Option.map, flat, flat1, scal, if_true, ↓reduceIte])
      refine AL.nil ?_
      refine Then.n ?_
      refine AW.ret ?_
      refine Then.r ?_
      refine FinP.ret (.tmp (by conv => lhs; whnf) .nil) ?_ rfl
      (try simp only [pack, List.drop, List.take])
      all_goals (rfl)
  · have hc1_ := hc1; (try simp only [decide_eq_true_eq, decide_eq_false_iff_not, Bool.not_true, Bool.not_false, Bool.not_eq_true', Bool.not_eq_false', Int.not_lt, Int.not_le, Classical.not_not, ne_eq] at hc1_)
    first
    | (exfalso; simp at hc1_; done)
    | (exfalso; omega; done)
    | skip
      refine AW.skip ?_
      refine Then.n ?_
      refine AW.seq ?_
      refine AW.seq ?_
      refine AW.region ?_
      refine AL.q rfl (OQ.loadN (n := 3) rfl (by kernel_rfl) (by kernel_rfl) (by first | (exact hget k hkl) | rfl)) ?_
      refine AL.pcall rfl (by kernel_rfl) rfl (HF _ rfl) ?_
      conv => (arg 5; try simp only [T.put, T.ev, putAt, setsT, newBlks, fillL, List.map, List.set, List.append, List.cons_append, List.nil_append, List.length, List.getElem?_cons_zero, List.getElem?_cons_succ, Nat.reduceAdd, Nat.reduceMul, Nat.zero_add, Nat.add_zero, Nat.mul_one, Nat.zero_mul, List.drop, List.take, List.toList_toArray, Value.cells, Int.reduceToNat, Int.toNat_natCast, List.getD, Option.getD, Option.map, flat, flat1, scal, if_true, ↓reduceIte])
      refine AL.q rfl (OQ.not rfl) ?_
      refine AL.q rfl (OQ.move (by conv => lhs; whnf)) ?_
      refine AL.gcase rfl rfl (fun hg2 => ?_) (fun hg2 => ?_)
      · have hg2_ := hg2; (try simp only [decide_eq_true_eq, decide_eq_false_iff_not, Bool.not_true, Bool.not_false, Bool.not_eq_true', Bool.not_eq_false', Int.not_lt, Int.not_le, Classical.not_not, ne_eq] at hg2_)
        first
        | (exfalso; simp at hg2_; done)
        | (exfalso; omega; done)
        | skip
          refine AL.q rfl (OQ.loadN (n := 3) rfl (by kernel_rfl) (by kernel_rfl) (by first | (exact hget k hkl) | rfl)) ?_
          refine AL.gyes rfl rfl hg2 ?_
          refine AL.q rfl (OQ.move (by conv => lhs; whnf)) ?_
          refine AL.gyes rfl rfl hg2 ?_
          refine AL.pcall rfl (by kernel_rfl) rfl (HT _ rfl) ?_
          conv => (arg 5; try simp only [T.put, T.ev, putAt, setsT, newBlks, fillL, List.map, List.set, List.append, List.cons_append, List.nil_append, List.length, List.getElem?_cons_zero, List.getElem?_cons_succ, Nat.reduceAdd, Nat.reduceMul, Nat.zero_add, Nat.add_zero, Nat.mul_one, Nat.zero_mul, List.drop, List.take, List.toList_toArray, Value.cells, Int.reduceToNat, Int.toNat_natCast, List.getD, Option.getD, Option.map, flat, flat1, scal, if_true, ↓reduceIte])
          refine AL.gyes rfl rfl hg2 ?_
          refine AL.q rfl (OQ.neq rfl rfl) ?_
          refine AL.q rfl (OQ.pickF rfl hg2 (by conv => lhs; whnf)) ?_
          refine AL.q rfl (OQ.move (by conv => lhs; whnf)) ?_
          refine AL.gcase rfl rfl (fun hg3 => ?_) (fun hg3 => ?_)
          · have hg3_ := hg3; (try simp only [decide_eq_true_eq, decide_eq_false_iff_not, Bool.not_true, Bool.not_false, Bool.not_eq_true', Bool.not_eq_false', Int.not_lt, Int.not_le, Classical.not_not, ne_eq] at hg3_)
            first
            | (exfalso; simp at hg3_; done)
            | (exfalso; omega; done)
            | skip
              refine AL.q rfl (OQ.fieldA (n := 1) (off := 0) (g := false) rfl (by kernel_rfl) (by decide)) ?_
              conv => (arg 5; try simp only [T.put, T.ev, putAt, setsT, newBlks, fillL, List.map, List.set, List.append, List.cons_append, List.nil_append, List.length, List.getElem?_cons_zero, List.getElem?_cons_succ, Nat.reduceAdd, Nat.reduceMul, Nat.zero_add, Nat.add_zero, Nat.mul_one, Nat.zero_mul, List.drop, List.take, List.toList_toArray, Value.cells, Int.reduceToNat, Int.toNat_natCast, List.getD, Option.getD, Option.map, flat, flat1, scal, if_true, ↓reduceIte])
              refine AL.gyes rfl rfl hg3 ?_
              refine AL.q rfl (OQ.load1 rfl (by kernel_rfl) (by first | (exact hget k hkl) | (conv => lhs; whnf))) ?_
              refine AL.gyes rfl rfl hg3 ?_
              refine AL.pcall rfl (by kernel_rfl) rfl (HW _ _ (by omega)) ?_
              conv => (arg 5; try simp only [T.put, T.ev, putAt, setsT, newBlks, fillL, List.map, List.set, List.append, List.cons_append, List.nil_append, List.length, List.getElem?_cons_zero, List.getElem?_cons_succ, Nat.reduceAdd, Nat.reduceMul, Nat.zero_add, Nat.add_zero, Nat.mul_one, Nat.zero_mul, List.drop, List.take, List.toList_toArray, Value.cells, Int.reduceToNat, Int.toNat_natCast, List.getD, Option.getD, Option.map, flat, flat1, scal, if_true, ↓reduceIte])
              refine AL.gyes rfl rfl hg3 ?_
              refine AL.q rfl (OQ.not rfl) ?_
              refine AL.q rfl (OQ.pickF rfl hg3 (by conv => lhs; whnf)) ?_
              refine AL.q rfl (OQ.move (by conv => lhs; whnf)) ?_
              refine AL.gcase rfl rfl (fun hg4 => ?_) (fun hg4 => ?_)
              · have hg4_ := hg4; (try simp only [decide_eq_true_eq, decide_eq_false_iff_not, Bool.not_true, Bool.not_false, Bool.not_eq_true', Bool.not_eq_false', Int.not_lt, Int.not_le, Classical.not_not, ne_eq] at hg4_)
                first
                | (exfalso; simp at hg4_; done)
                | (exfalso; omega; done)
                | skip
                  refine AL.q rfl (OQ.fieldA (n := 1) (off := 1) (g := false) rfl (by kernel_rfl) (by decide)) ?_
                  conv => (arg 5; try simp only [T.put, T.ev, putAt, setsT, newBlks, fillL, List.map, List.set, List.append, List.cons_append, List.nil_append, List.length, List.getElem?_cons_zero, List.getElem?_cons_succ, Nat.reduceAdd, Nat.reduceMul, Nat.zero_add, Nat.add_zero, Nat.mul_one, Nat.zero_mul, List.drop, List.take, List.toList_toArray, Value.cells, Int.reduceToNat, Int.toNat_natCast, List.getD, Option.getD, Option.map, flat, flat1, scal, if_true, ↓reduceIte])
                  refine AL.gyes rfl rfl hg4 ?_
                  refine AL.q rfl (OQ.load1 rfl (by kernel_rfl) (by first | (exact hget k hkl) | (conv => lhs; whnf))) ?_
                  refine AL.gyes rfl rfl hg4 ?_
                  refine AL.pcall rfl (by kernel_rfl) rfl (HW _ _ (by omega)) ?_
                  conv => (arg 5; try simp only [T.put, T.ev, putAt, setsT, newBlks, fillL, List.map, List.set, List.append, List.cons_append, List.nil_append, List.length, List.getElem?_cons_zero, List.getElem?_cons_succ, Nat.reduceAdd, Nat.reduceMul, Nat.zero_add, Nat.add_zero, Nat.mul_one, Nat.zero_mul, List.drop, List.take, List.toList_toArray, Value.cells, Int.reduceToNat, Int.toNat_natCast, List.getD, Option.getD, Option.map, flat, flat1, scal, if_true, ↓reduceIte])
                  refine AL.gyes rfl rfl hg4 ?_
                  refine AL.q rfl (OQ.not rfl) ?_
                  refine AL.q rfl (OQ.pickF rfl hg4 (by conv => lhs; whnf)) ?_
                  conv => (arg 5; try simp only [T.put, T.ev, putAt, setsT, newBlks, fillL, List.map, List.set, List.append, List.cons_append, List.nil_append, List.length, List.getElem?_cons_zero, List.getElem?_cons_succ, Nat.reduceAdd, Nat.reduceMul, Nat.zero_add, Nat.add_zero, Nat.mul_one, Nat.zero_mul, List.drop, List.take, List.toList_toArray, Value.cells, Int.reduceToNat, Int.toNat_natCast, List.getD, Option.getD, Option.map, flat, flat1, scal, if_true, ↓reduceIte])
                  refine AL.nil ?_
                  refine Then.n ?_
                  refine AW.cond rfl (fun hc5 => ?_) (fun hc5 => ?_)
                  · have hc5_ := hc5; (try simp only [decide_eq_true_eq, decide_eq_false_iff_not, Bool.not_true, Bool.not_false, Bool.not_eq_true', Bool.not_eq_false', Int.not_lt, Int.not_le, Classical.not_not, ne_eq] at hc5_)
                    first
                    | (exfalso; simp at hc5_; done)
                    | (exfalso; omega; done)
                    | skip
                      refine AW.seq ?_
                      refine AW.region ?_
                      refine AL.q rfl (OQ.assign (by conv => lhs; whnf)) ?_
                      conv => (arg 5; try simp only [T.put, T.ev, putAt, setsT, newBlks, fillL, List.map, List.set, List.append, List.cons_append, List.nil_append, List.length, List.getElem?_cons_zero, List.getElem?_cons_succ, Nat.reduceAdd, Nat.reduceMul, Nat.zero_add, Nat.add_zero, Nat.mul_one, Nat.zero_mul, List.drop, List.take, List.toList_toArray, Value.cells, Int.reduceToNat, Int.toNat_natCast, List.getD, Option.getD, Option.map, flat, flat1, scal, if_true, ↓reduceIte])
                      refine AL.nil ?_
                      refine Then.n ?_
                      refine AW.ret ?_
                      refine Then.r ?_
                      refine FinP.ret (.tmp (by conv => lhs; whnf) .nil) ?_ rfl
                      (try simp only [pack, List.drop, List.take])
                      all_goals (rfl)
                  · have hc5_ := hc5; (try simp only [decide_eq_true_eq, decide_eq_false_iff_not, Bool.not_true, Bool.not_false, Bool.not_eq_true', Bool.not_eq_false', Int.not_lt, Int.not_le, Classical.not_not, ne_eq] at hc5_)
                    first
                    | (exfalso; simp at hc5_; done)
                    | (exfalso; omega; done)
                    | skip
                      refine AW.skip ?_
                      refine Then.n ?_
                      refine AW.seq ?_
                      refine AW.region ?_
                      refine AL.q rfl (OQ.loadN (n := 3) rfl (by kernel_rfl) (by kernel_rfl) (by first | (exact hget k hkl) | rfl)) ?_
                      refine AL.acall rfl (by kernel_rfl) rfl (HC _ rfl) ?_
                      conv => (arg 5; try simp only [T.put, T.ev, putAt, setsT, newBlks, fillL, List.map, List.set, List.append, List.cons_append, List.nil_append, List.length, List.getElem?_cons_zero, List.getElem?_cons_succ, Nat.reduceAdd, Nat.reduceMul, Nat.zero_add, Nat.add_zero, Nat.mul_one, Nat.zero_mul, List.drop, List.take, List.toList_toArray, Value.cells, Int.reduceToNat, Int.toNat_natCast, List.getD, Option.getD, Option.map, flat, flat1, scal, if_true, ↓reduceIte])
                      conv => (arg 6; try simp only [T.put, T.ev, putAt, setsT, newBlks, fillL, List.map, List.set, List.append, List.cons_append, List.nil_append, List.length, List.getElem?_cons_zero, List.getElem?_cons_succ, Nat.reduceAdd, Nat.reduceMul, Nat.zero_add, Nat.add_zero, Nat.mul_one, Nat.zero_mul, List.drop, List.take, List.toList_toArray, Value.cells, Int.reduceToNat, Int.toNat_natCast, List.getD, Option.getD, Option.map, flat, flat1, scal, if_true, ↓reduceIte])
                      refine AL.w rfl (OW.alloc (z := [.string ⟨#[]⟩, .int .i64 0, .slice none 0 0]) (by kernel_rfl) rfl) ?_
                      conv => (arg 5; try simp only [T.put, T.ev, putAt, setsT, newBlks, fillL, List.map, List.set, List.append, List.cons_append, List.nil_append, List.length, List.getElem?_cons_zero, List.getElem?_cons_succ, Nat.reduceAdd, Nat.reduceMul, Nat.zero_add, Nat.add_zero, Nat.mul_one, Nat.zero_mul, List.drop, List.take, List.toList_toArray, Value.cells, Int.reduceToNat, Int.toNat_natCast, List.getD, Option.getD, Option.map, flat, flat1, scal, if_true, ↓reduceIte])
                      conv => (arg 6; try simp only [T.put, T.ev, putAt, setsT, newBlks, fillL, List.map, List.set, List.append, List.cons_append, List.nil_append, List.length, List.getElem?_cons_zero, List.getElem?_cons_succ, Nat.reduceAdd, Nat.reduceMul, Nat.zero_add, Nat.add_zero, Nat.mul_one, Nat.zero_mul, List.drop, List.take, List.toList_toArray, Value.cells, Int.reduceToNat, Int.toNat_natCast, List.getD, Option.getD, Option.map, flat, flat1, scal, if_true, ↓reduceIte])
                      refine AL.w rfl (OW.store (n := 3) rfl (by conv => lhs; whnf) rfl rfl (by kernel_rfl) rfl rfl (by decide) rfl (by first | exact Nat.le_of_ble_eq_true rfl | ((show k * 5 + 4 + 1 ≤ (flatS (widTo we l k)).length; rw [flatS_len, widTo_len]; omega))) (by intro r h; cases h)) ?_
                      conv => (arg 5; try simp only [T.put, T.ev, putAt, setsT, newBlks, fillL, List.map, List.set, List.append, List.cons_append, List.nil_append, List.length, List.getElem?_cons_zero, List.getElem?_cons_succ, Nat.reduceAdd, Nat.reduceMul, Nat.zero_add, Nat.add_zero, Nat.mul_one, Nat.zero_mul, List.drop, List.take, List.toList_toArray, Value.cells, Int.reduceToNat, Int.toNat_natCast, List.getD, Option.getD, Option.map, flat, flat1, scal, if_true, ↓reduceIte])
                      conv => (arg 6; try simp only [T.put, T.ev, putAt, setsT, newBlks, fillL, List.map, List.set, List.append, List.cons_append, List.nil_append, List.length, List.getElem?_cons_zero, List.getElem?_cons_succ, Nat.reduceAdd, Nat.reduceMul, Nat.zero_add, Nat.add_zero, Nat.mul_one, Nat.zero_mul, List.drop, List.take, List.toList_toArray, Value.cells, Int.reduceToNat, Int.toNat_natCast, List.getD, Option.getD, Option.map, flat, flat1, scal, if_true, ↓reduceIte])
                      refine AL.nil ?_
                      refine Then.n ?_
                      refine AW.seq ?_
                      refine AW.region ?_
                      refine AL.q rfl (OQ.fieldA (n := 1) (off := 1) (g := false) rfl (by kernel_rfl) (by decide)) ?_
                      conv => (arg 5; try simp only [T.put, T.ev, putAt, setsT, newBlks, fillL, List.map, List.set, List.append, List.cons_append, List.nil_append, List.length, List.getElem?_cons_zero, List.getElem?_cons_succ, Nat.reduceAdd, Nat.reduceMul, Nat.zero_add, Nat.add_zero, Nat.mul_one, Nat.zero_mul, List.drop, List.take, List.toList_toArray, Value.cells, Int.reduceToNat, Int.toNat_natCast, List.getD, Option.getD, Option.map, flat, flat1, scal, if_true, ↓reduceIte])
                      refine AL.q rfl (OQ.load1 rfl (by kernel_rfl) (by first | (exact hget k hkl) | (conv => lhs; whnf))) ?_
                      refine AL.q rfl (OQ.fieldA (n := 1) (off := 1) (g := false) rfl (by kernel_rfl) (by decide)) ?_
                      conv => (arg 5; try simp only [T.put, T.ev, putAt, setsT, newBlks, fillL, List.map, List.set, List.append, List.cons_append, List.nil_append, List.length, List.getElem?_cons_zero, List.getElem?_cons_succ, Nat.reduceAdd, Nat.reduceMul, Nat.zero_add, Nat.add_zero, Nat.mul_one, Nat.zero_mul, List.drop, List.take, List.toList_toArray, Value.cells, Int.reduceToNat, Int.toNat_natCast, List.getD, Option.getD, Option.map, flat, flat1, scal, if_true, ↓reduceIte])
                      refine AL.q rfl (OQ.load1 rfl (by kernel_rfl) (by first | (exact hget k hkl) | (conv => lhs; whnf))) ?_
                      first | refine AL.q rfl (OQ.addi rfl rfl (by omega)) ?_ | refine AL.q rfl (OQ.add rfl rfl) ?_
                      refine AL.q rfl (OQ.fieldA (n := 1) (off := 1) (g := false) rfl (by kernel_rfl) (by decide)) ?_
                      conv => (arg 5; try simp only [T.put, T.ev, putAt, setsT, newBlks, fillL, List.map, List.set, List.append, List.cons_append, List.nil_append, List.length, List.getElem?_cons_zero, List.getElem?_cons_succ, Nat.reduceAdd, Nat.reduceMul, Nat.zero_add, Nat.add_zero, Nat.mul_one, Nat.zero_mul, List.drop, List.take, List.toList_toArray, Value.cells, Int.reduceToNat, Int.toNat_natCast, List.getD, Option.getD, Option.map, flat, flat1, scal, if_true, ↓reduceIte])
                      refine AL.w rfl (OW.store (n := 1) rfl (by conv => lhs; whnf) rfl rfl (by kernel_rfl) rfl rfl (by decide) rfl (by first | exact Nat.le_of_ble_eq_true rfl | ((show k * 5 + 4 + 1 ≤ (flatS (widTo we l k)).length; rw [flatS_len, widTo_len]; omega))) (by intro r h; cases h)) ?_
                      conv => (arg 5; try simp only [T.put, T.ev, putAt, setsT, newBlks, fillL, List.map, List.set, List.append, List.cons_append, List.nil_append, List.length, List.getElem?_cons_zero, List.getElem?_cons_succ, Nat.reduceAdd, Nat.reduceMul, Nat.zero_add, Nat.add_zero, Nat.mul_one, Nat.zero_mul, List.drop, List.take, List.toList_toArray, Value.cells, Int.reduceToNat, Int.toNat_natCast, List.getD, Option.getD, Option.map, flat, flat1, scal, if_true, ↓reduceIte])
                      conv => (arg 6; try simp only [T.put, T.ev, putAt, setsT, newBlks, fillL, List.map, List.set, List.append, List.cons_append, List.nil_append, List.length, List.getElem?_cons_zero, List.getElem?_cons_succ, Nat.reduceAdd, Nat.reduceMul, Nat.zero_add, Nat.add_zero, Nat.mul_one, Nat.zero_mul, List.drop, List.take, List.toList_toArray, Value.cells, Int.reduceToNat, Int.toNat_natCast, List.getD, Option.getD, Option.map, flat, flat1, scal, if_true, ↓reduceIte])
                      refine AL.nil ?_
                      refine Then.n ?_
                      refine AW.seq ?_
                      refine AW.seq ?_
                      refine AW.region ?_
                      refine AL.q rfl (OQ.assign (by conv => lhs; whnf)) ?_
                      conv => (arg 5; try simp only [T.put, T.ev, putAt, setsT, newBlks, fillL, List.map, List.set, List.append, List.cons_append, List.nil_append, List.length, List.getElem?_cons_zero, List.getElem?_cons_succ, Nat.reduceAdd, Nat.reduceMul, Nat.zero_add, Nat.add_zero, Nat.mul_one, Nat.zero_mul, List.drop, List.take, List.toList_toArray, Value.cells, Int.reduceToNat, Int.toNat_natCast, List.getD, Option.getD, Option.map, flat, flat1, scal, if_true, ↓reduceIte])
                      refine AL.nil ?_
                      refine Then.n ?_
                      refine AW.block ?_
                      refine AW.wk (Wk.forget [false, false, true, true, true, false, false, true, true, false, false, false, false, false, false, false, false, false, false, false, false, false, false, false, false, false, false, false, false, false, false, false, false, false, false, false, false, false, false, false, false, false, false, false, false, false, false, false, false, false, false, false, false, false, false, false, false, false, false, false, false, false, false, false, false, false, false, false, false, false, false, false, false, false, false, false, false, false, false, false, false, false, false, false, false, false, false, false, false, false, false, false, false, false, false, false, false, false, false, false, false, false, false, false, false, false, false, false, false, false, false, false, false, false, false, false, false, false, false, false, false, false, false, false, false, false, false, false, false, false, false, false, false, false, false, false, false, false, false, false, false, false, false] rfl) ?_
                      conv => (arg 4; simp only [fgt, if_true, if_false, Bool.false_eq_true])
                      refine AW.loop (fun n t' m => ∃ k : Nat, n = l.length - k ∧ k ≤ l.length ∧ t' = [junk, junk, .int .i64 t, .pointer (some ⟨1, 0, none⟩), .pointer (some ⟨2, 0, none⟩), junk, junk, .pointer (some ⟨4, 0, none⟩), .int .i64 k, junk, junk, junk, junk, junk, junk, junk, junk, junk, junk, junk, junk, junk, junk, junk, junk, junk, junk, junk, junk, junk, junk, junk, junk, junk, junk, junk, junk, junk, junk, junk, junk, junk, junk, junk, junk, junk, junk, junk, junk, junk, junk, junk, junk, junk, junk, junk, junk, junk, junk, junk, junk, junk, junk, junk, junk, junk, junk, junk, junk, junk, junk, junk, junk, junk, junk, junk, junk, junk, junk, junk, junk, junk, junk, junk, junk, junk, junk, junk, junk, junk, junk, junk, junk, junk, junk, junk, junk, junk, junk, junk, junk, junk, junk, junk, junk, junk, junk, junk, junk, junk, junk, junk, junk, junk, junk, junk, junk, junk, junk, junk, junk, junk, junk, junk, junk, junk, junk, junk, junk, junk, junk, junk, junk, junk, junk, junk, junk, junk, junk, junk, junk, junk, junk] ∧ m = [some ⟨flatS l, false, 0⟩, some ⟨[.string nm, .int .i64 bd, .slice (some ⟨0, 0, none⟩) l.length INF], true, 0⟩, some ⟨[.int .i64 we, .int .i64 wb], true, 0⟩, some ⟨flatS (widTo we l k), true, 5⟩, some ⟨[.string nm, .int .i64 (bd + wb), .slice (some ⟨3, 0, none⟩) l.length INF], true, 0⟩]) (l.length) ?_ ?_
                      · exact ⟨0, rfl, Nat.zero_le _, rfl, by rw [widTo_zero]⟩
                      · rintro n t' m ⟨k, rfl, hk, rfl, rfl⟩
                        refine AW.seq ?_
                        refine AW.seq ?_
                        refine AW.region ?_
                        refine AL.q rfl (OQ.move (by conv => lhs; whnf)) ?_
                        refine AL.q rfl (OQ.fieldA (n := 1) (off := 2) (g := false) rfl (by kernel_rfl) (by decide)) ?_
                        conv => (arg 5; try simp only [T.put, T.ev, putAt, setsT, newBlks, fillL, List.map, List.set, List.append, List.cons_append, List.nil_append, List.length, List.getElem?_cons_zero, List.getElem?_cons_succ, Nat.reduceAdd, Nat.reduceMul, Nat.zero_add, Nat.add_zero, Nat.mul_one, Nat.zero_mul, List.drop, List.take, List.toList_toArray, Value.cells, Int.reduceToNat, Int.toNat_natCast, List.getD, Option.getD, Option.map, flat, flat1, scal, if_true, ↓reduceIte])
                        refine AL.q rfl (OQ.load1 rfl (by kernel_rfl) (by first | (exact hget k hkl) | (conv => lhs; whnf))) ?_
                        refine AL.q rfl (OQ.lenS (r := (none, 5, true)) rfl (by kernel_rfl)) ?_
                        refine AL.q rfl (OQ.lss rfl rfl) ?_
                        conv => (arg 5; try simp only [T.put, T.ev, putAt, setsT, newBlks, fillL, List.map, List.set, List.append, List.cons_append, List.nil_append, List.length, List.getElem?_cons_zero, List.getElem?_cons_succ, Nat.reduceAdd, Nat.reduceMul, Nat.zero_add, Nat.add_zero, Nat.mul_one, Nat.zero_mul, List.drop, List.take, List.toList_toArray, Value.cells, Int.reduceToNat, Int.toNat_natCast, List.getD, Option.getD, Option.map, flat, flat1, scal, if_true, ↓reduceIte])
                        refine AL.nil ?_
                        refine Then.n ?_
                        refine AW.cond rfl (fun hc6 => ?_) (fun hc6 => ?_)
                        · have hc6_ := hc6; (try simp only [decide_eq_true_eq, decide_eq_false_iff_not, Bool.not_true, Bool.not_false, Bool.not_eq_true', Bool.not_eq_false', Int.not_lt, Int.not_le, Classical.not_not, ne_eq] at hc6_)
                          first
                          | (exfalso; simp at hc6_; done)
                          | (exfalso; omega; done)
                          | skip
                            refine AW.skip ?_
                            refine Then.n ?_
                            refine AW.seq ?_
                            refine AW.block ?_
                            have hkl : k < l.length := by omega
                            have hoke := hok k hkl
                            refine AW.draw 14 #[0, 1, 0, 0, 8, 0, 56, 120, 248, 0, 512, 2040, 4095, 8191, 16383] (by kernel_rfl) (by kernel_rfl) ?_
                            refine AD.q rfl (OQ.fieldA (n := 1) (off := 2) (g := false) rfl (by kernel_rfl) (by decide)) rfl rfl rfl ?_
                            conv => (arg 10; try simp only [T.put, T.ev, putAt, setsT, newBlks, fillL, List.map, List.set, List.append, List.cons_append, List.nil_append, List.length, List.getElem?_cons_zero, List.getElem?_cons_succ, Nat.reduceAdd, Nat.reduceMul, Nat.zero_add, Nat.add_zero, Nat.mul_one, Nat.zero_mul, List.drop, List.take, List.toList_toArray, Value.cells, Int.reduceToNat, Int.toNat_natCast, List.getD, Option.getD, Option.map, flat, flat1, scal, if_true, ↓reduceIte])
                            refine AD.q rfl (OQ.load1 rfl (by kernel_rfl) (by first | (exact hget k hkl) | (conv => lhs; whnf))) rfl rfl rfl ?_
                            refine AD.q rfl (OQ.move (by conv => lhs; whnf)) rfl rfl rfl ?_
                            refine AD.q rfl (OQ.fieldA (n := 1) (off := 2) (g := false) rfl (by kernel_rfl) (by decide)) rfl rfl rfl ?_
                            conv => (arg 10; try simp only [T.put, T.ev, putAt, setsT, newBlks, fillL, List.map, List.set, List.append, List.cons_append, List.nil_append, List.length, List.getElem?_cons_zero, List.getElem?_cons_succ, Nat.reduceAdd, Nat.reduceMul, Nat.zero_add, Nat.add_zero, Nat.mul_one, Nat.zero_mul, List.drop, List.take, List.toList_toArray, Value.cells, Int.reduceToNat, Int.toNat_natCast, List.getD, Option.getD, Option.map, flat, flat1, scal, if_true, ↓reduceIte])
                            refine AD.q rfl (OQ.load1 rfl (by kernel_rfl) (by first | (exact hget k hkl) | (conv => lhs; whnf))) rfl rfl rfl ?_
                            refine AD.q rfl (OQ.move (by conv => lhs; whnf)) rfl rfl rfl ?_
                            refine AD.q rfl (OQ.idxAddr (z := 5) (g := true) rfl rfl (by kernel_rfl) (by omega) (by omega)) rfl rfl rfl ?_
                            conv => (arg 10; try simp only [T.put, T.ev, putAt, setsT, newBlks, fillL, List.map, List.set, List.append, List.cons_append, List.nil_append, List.length, List.getElem?_cons_zero, List.getElem?_cons_succ, Nat.reduceAdd, Nat.reduceMul, Nat.zero_add, Nat.add_zero, Nat.mul_one, Nat.zero_mul, List.drop, List.take, List.toList_toArray, Value.cells, Int.reduceToNat, Int.toNat_natCast, List.getD, Option.getD, Option.map, flat, flat1, scal, if_true, ↓reduceIte])
                            refine AD.q rfl (OQ.fieldA (n := 1) (off := 4) (g := false) rfl (by kernel_rfl) (by decide)) rfl rfl rfl ?_
                            conv => (arg 10; try simp only [T.put, T.ev, putAt, setsT, newBlks, fillL, List.map, List.set, List.append, List.cons_append, List.nil_append, List.length, List.getElem?_cons_zero, List.getElem?_cons_succ, Nat.reduceAdd, Nat.reduceMul, Nat.zero_add, Nat.add_zero, Nat.mul_one, Nat.zero_mul, List.drop, List.take, List.toList_toArray, Value.cells, Int.reduceToNat, Int.toNat_natCast, List.getD, Option.getD, Option.map, flat, flat1, scal, if_true, ↓reduceIte])
                            refine AD.q rfl (OQ.load1 rfl (by kernel_rfl) (by first | (exact hget k hkl) | (conv => lhs; whnf))) rfl rfl rfl ?_
                            refine AD.q rfl (OQ.fieldA (n := 1) (off := 0) (g := false) rfl (by kernel_rfl) (by decide)) rfl rfl rfl ?_
                            conv => (arg 10; try simp only [T.put, T.ev, putAt, setsT, newBlks, fillL, List.map, List.set, List.append, List.cons_append, List.nil_append, List.length, List.getElem?_cons_zero, List.getElem?_cons_succ, Nat.reduceAdd, Nat.reduceMul, Nat.zero_add, Nat.add_zero, Nat.mul_one, Nat.zero_mul, List.drop, List.take, List.toList_toArray, Value.cells, Int.reduceToNat, Int.toNat_natCast, List.getD, Option.getD, Option.map, flat, flat1, scal, if_true, ↓reduceIte])
                            refine AD.q rfl (OQ.load1 rfl (by kernel_rfl) (by first | (exact hget k hkl) | (conv => lhs; whnf))) rfl rfl rfl ?_
                            first | refine AD.q rfl (OQ.addi rfl rfl (by omega)) rfl rfl rfl ?_ | refine AD.q rfl (OQ.add rfl rfl) rfl rfl rfl ?_
                            refine AD.q rfl (OQ.idxAddr (z := 5) (g := true) rfl rfl (by kernel_rfl) (by omega) (by omega)) rfl rfl rfl ?_
                            conv => (arg 10; try simp only [T.put, T.ev, putAt, setsT, newBlks, fillL, List.map, List.set, List.append, List.cons_append, List.nil_append, List.length, List.getElem?_cons_zero, List.getElem?_cons_succ, Nat.reduceAdd, Nat.reduceMul, Nat.zero_add, Nat.add_zero, Nat.mul_one, Nat.zero_mul, List.drop, List.take, List.toList_toArray, Value.cells, Int.reduceToNat, Int.toNat_natCast, List.getD, Option.getD, Option.map, flat, flat1, scal, if_true, ↓reduceIte])
                            refine AD.q rfl (OQ.fieldA (n := 1) (off := 4) (g := false) rfl (by kernel_rfl) (by decide)) rfl rfl rfl ?_
                            conv => (arg 10; try simp only [T.put, T.ev, putAt, setsT, newBlks, fillL, List.map, List.set, List.append, List.cons_append, List.nil_append, List.length, List.getElem?_cons_zero, List.getElem?_cons_succ, Nat.reduceAdd, Nat.reduceMul, Nat.zero_add, Nat.add_zero, Nat.mul_one, Nat.zero_mul, List.drop, List.take, List.toList_toArray, Value.cells, Int.reduceToNat, Int.toNat_natCast, List.getD, Option.getD, Option.map, flat, flat1, scal, if_true, ↓reduceIte])
                            refine AD.nil ?_
                            conv => (arg 5; try simp only [T.put, T.ev, putAt, setsT, newBlks, fillL, List.map, List.set, List.append, List.cons_append, List.nil_append, List.length, List.getElem?_cons_zero, List.getElem?_cons_succ, Nat.reduceAdd, Nat.reduceMul, Nat.zero_add, Nat.add_zero, Nat.mul_one, Nat.zero_mul, List.drop, List.take, List.toList_toArray, Value.cells, Int.reduceToNat, Int.toNat_natCast, List.getD, Option.getD, Option.map, flat, flat1, scal, if_true, ↓reduceIte])
                            conv => (arg 6; try simp only [T.put, T.ev, putAt, setsT, newBlks, fillL, List.map, List.set, List.append, List.cons_append, List.nil_append, List.length, List.getElem?_cons_zero, List.getElem?_cons_succ, Nat.reduceAdd, Nat.reduceMul, Nat.zero_add, Nat.add_zero, Nat.mul_one, Nat.zero_mul, List.drop, List.take, List.toList_toArray, Value.cells, Int.reduceToNat, Int.toNat_natCast, List.getD, Option.getD, Option.map, flat, flat1, scal, if_true, ↓reduceIte])
                            refine AL.w rfl (OW.store (n := 1) rfl (by conv => lhs; whnf) rfl rfl (by kernel_rfl) rfl rfl (by decide) rfl (by first | exact Nat.le_of_ble_eq_true rfl | ((show k * 5 + 4 + 1 ≤ (flatS (widTo we l k)).length; rw [flatS_len, widTo_len]; omega))) (by intro r h; cases h)) ?_
                            conv => (arg 5; try simp only [T.put, T.ev, putAt, setsT, newBlks, fillL, List.map, List.set, List.append, List.cons_append, List.nil_append, List.length, List.getElem?_cons_zero, List.getElem?_cons_succ, Nat.reduceAdd, Nat.reduceMul, Nat.zero_add, Nat.add_zero, Nat.mul_one, Nat.zero_mul, List.drop, List.take, List.toList_toArray, Value.cells, Int.reduceToNat, Int.toNat_natCast, List.getD, Option.getD, Option.map, flat, flat1, scal, if_true, ↓reduceIte])
                            conv => (arg 6; try simp only [T.put, T.ev, putAt, setsT, newBlks, fillL, List.map, List.set, List.append, List.cons_append, List.nil_append, List.length, List.getElem?_cons_zero, List.getElem?_cons_succ, Nat.reduceAdd, Nat.reduceMul, Nat.zero_add, Nat.add_zero, Nat.mul_one, Nat.zero_mul, List.drop, List.take, List.toList_toArray, Value.cells, Int.reduceToNat, Int.toNat_natCast, List.getD, Option.getD, Option.map, flat, flat1, scal, if_true, ↓reduceIte])
                            refine AL.nil ?_
                            refine InB.n ?_
                            refine Then.n ?_
                            refine AW.region ?_
                            refine AL.q rfl (OQ.move (by conv => lhs; whnf)) ?_
                            first | refine AL.q rfl (OQ.addi rfl rfl (by omega)) ?_ | refine AL.q rfl (OQ.add rfl rfl) ?_
                            refine AL.q rfl (OQ.assign (by conv => lhs; whnf)) ?_
                            conv => (arg 5; try simp only [T.put, T.ev, putAt, setsT, newBlks, fillL, List.map, List.set, List.append, List.cons_append, List.nil_append, List.length, List.getElem?_cons_zero, List.getElem?_cons_succ, Nat.reduceAdd, Nat.reduceMul, Nat.zero_add, Nat.add_zero, Nat.mul_one, Nat.zero_mul, List.drop, List.take, List.toList_toArray, Value.cells, Int.reduceToNat, Int.toNat_natCast, List.getD, Option.getD, Option.map, flat, flat1, scal, if_true, ↓reduceIte])
                            refine AL.nil ?_
                            refine Then.n ?_
                            exact ⟨_, _, _, (by omega : l.length - (k + 1) < l.length - k), Wk.forget [false, false, true, true, true, false, false, true, true, false, false, false, false, false, false, false, false, false, false, false, false, false, false, false, false, false, false, false, false, false, false, false, false, false, false, false, false, false, false, false, false, false, false, false, false, false, false, false, false, false, false, false, false, false, false, false, false, false, false, false, false, false, false, false, false, false, false, false, false, false, false, false, false, false, false, false, false, false, false, false, false, false, false, false, false, false, false, false, false, false, false, false, false, false, false, false, false, false, false, false, false, false, false, false, false, false, false, false, false, false, false, false, false, false, false, false, false, false, false, false, false, false, false, false, false, false, false, false, false, false, false, false, false, false, false, false, false, false, false, false, false, false, false] rfl, k + 1, rfl, hkl, rfl, by rw [← flatS_set hkl]⟩
                        · have hc6_ := hc6; (try simp only [decide_eq_true_eq, decide_eq_false_iff_not, Bool.not_true, Bool.not_false, Bool.not_eq_true', Bool.not_eq_false', Int.not_lt, Int.not_le, Classical.not_not, ne_eq] at hc6_)
                          first
                          | (exfalso; simp at hc6_; done)
                          | (exfalso; omega; done)
                          | skip
                            refine AW.exit ?_
                            refine Then.x ?_
                            refine Then.x ?_
                            refine InB.hit ?_
                            refine Then.n ?_
                            refine AW.seq ?_
                            refine AW.seq ?_
                            obtain rfl : k = l.length := by omega
                            rw [hwall]
                            refine AW.region ?_
                            refine AL.q rfl (OQ.loadN (n := 3) rfl (by kernel_rfl) (by kernel_rfl) (by first | (exact hget k hkl) | rfl)) ?_
                            refine AL.pcall rfl (by kernel_rfl) rfl (HE _ _ rfl) ?_
                            conv => (arg 5; try simp only [T.put, T.ev, putAt, setsT, newBlks, fillL, List.map, List.set, List.append, List.cons_append, List.nil_append, List.length, List.getElem?_cons_zero, List.getElem?_cons_succ, Nat.reduceAdd, Nat.reduceMul, Nat.zero_add, Nat.add_zero, Nat.mul_one, Nat.zero_mul, List.drop, List.take, List.toList_toArray, Value.cells, Int.reduceToNat, Int.toNat_natCast, List.getD, Option.getD, Option.map, flat, flat1, scal, if_true, ↓reduceIte])
                            refine AL.q rfl (OQ.neq rfl rfl) ?_
                            conv => (arg 5; try simp only [T.put, T.ev, putAt, setsT, newBlks, fillL, List.map, List.set, List.append, List.cons_append, List.nil_append, List.length, List.getElem?_cons_zero, List.getElem?_cons_succ, Nat.reduceAdd, Nat.reduceMul, Nat.zero_add, Nat.add_zero, Nat.mul_one, Nat.zero_mul, List.drop, List.take, List.toList_toArray, Value.cells, Int.reduceToNat, Int.toNat_natCast, List.getD, Option.getD, Option.map, flat, flat1, scal, if_true, ↓reduceIte])
                            refine AL.nil ?_
                            refine Then.n ?_
                            refine AW.cond rfl (fun hc7 => ?_) (fun hc7 => ?_)
                            · have hc7_ := hc7; (try simp only [decide_eq_true_eq, decide_eq_false_iff_not, Bool.not_true, Bool.not_false, Bool.not_eq_true', Bool.not_eq_false', Int.not_lt, Int.not_le, Classical.not_not, ne_eq] at hc7_)
                              first
                              | (exfalso; simp at hc7_; done)
                              | (exfalso; omega; done)
                              | skip
                                refine AW.seq ?_
                                refine AW.region ?_
                                refine AL.q rfl (OQ.assign (by conv => lhs; whnf)) ?_
                                conv => (arg 5; try simp only [T.put, T.ev, putAt, setsT, newBlks, fillL, List.map, List.set, List.append, List.cons_append, List.nil_append, List.length, List.getElem?_cons_zero, List.getElem?_cons_succ, Nat.reduceAdd, Nat.reduceMul, Nat.zero_add, Nat.add_zero, Nat.mul_one, Nat.zero_mul, List.drop, List.take, List.toList_toArray, Value.cells, Int.reduceToNat, Int.toNat_natCast, List.getD, Option.getD, Option.map, flat, flat1, scal, if_true, ↓reduceIte])
                                refine AL.nil ?_
                                refine Then.n ?_
                                refine AW.ret ?_
                                refine Then.r ?_
                                refine FinP.ret (.tmp (by conv => lhs; whnf) .nil) ?_ rfl
                                (try simp only [pack, List.drop, List.take])
                                all_goals (rfl)
                            · have hc7_ := hc7; (try simp only [decide_eq_true_eq, decide_eq_false_iff_not, Bool.not_true, Bool.not_false, Bool.not_eq_true', Bool.not_eq_false', Int.not_lt, Int.not_le, Classical.not_not, ne_eq] at hc7_)
                              first
                              | (exfalso; simp at hc7_; done)
                              | (exfalso; omega; done)
                              | skip
                                refine AW.skip ?_
                                refine Then.n ?_
                                refine AW.seq ?_
                                exact absurd rfl (by omega)
              · have hg4_ := hg4; (try simp only [decide_eq_true_eq, decide_eq_false_iff_not, Bool.not_true, Bool.not_false, Bool.not_eq_true', Bool.not_eq_false', Int.not_lt, Int.not_le, Classical.not_not, ne_eq] at hg4_)
                first
                | (exfalso; simp at hg4_; done)
                | (exfalso; omega; done)
                | skip
                  refine AL.gno rfl rfl hg4 ?_
                  refine AL.gno rfl rfl hg4 ?_
                  refine AL.gno rfl rfl hg4 ?_
                  refine AL.q rfl (OQ.pickT rfl hg4 (by conv => lhs; whnf)) ?_
                  conv => (arg 5; try simp only [T.put, T.ev, putAt, setsT, newBlks, fillL, List.map, List.set, List.append, List.cons_append, List.nil_append, List.length, List.getElem?_cons_zero, List.getElem?_cons_succ, Nat.reduceAdd, Nat.reduceMul, Nat.zero_add, Nat.add_zero, Nat.mul_one, Nat.zero_mul, List.drop, List.take, List.toList_toArray, Value.cells, Int.reduceToNat, Int.toNat_natCast, List.getD, Option.getD, Option.map, flat, flat1, scal, if_true, ↓reduceIte])
                  refine AL.nil ?_
                  refine Then.n ?_
                  refine AW.condT rfl rfl ?_
                  refine AW.seq ?_
                  refine AW.region ?_
                  refine AL.q rfl (OQ.assign (by conv => lhs; whnf)) ?_
                  conv => (arg 5; try simp only [T.put, T.ev, putAt, setsT, newBlks, fillL, List.map, List.set, List.append, List.cons_append, List.nil_append, List.length, List.getElem?_cons_zero, List.getElem?_cons_succ, Nat.reduceAdd, Nat.reduceMul, Nat.zero_add, Nat.add_zero, Nat.mul_one, Nat.zero_mul, List.drop, List.take, List.toList_toArray, Value.cells, Int.reduceToNat, Int.toNat_natCast, List.getD, Option.getD, Option.map, flat, flat1, scal, if_true, ↓reduceIte])
                  refine AL.nil ?_
                  refine Then.n ?_
                  refine AW.ret ?_
                  refine Then.r ?_
                  refine FinP.ret (.tmp (by conv => lhs; whnf) .nil) ?_ rfl
                  (try simp only [pack, List.drop, List.take])
                  all_goals (rfl)
          · have hg3_ := hg3; (try simp only [decide_eq_true_eq, decide_eq_false_iff_not, Bool.not_true, Bool.not_false, Bool.not_eq_true', Bool.not_eq_false', Int.not_lt, Int.not_le, Classical.not_not, ne_eq] at hg3_)
            first
            | (exfalso; simp at hg3_; done)
            | (exfalso; omega; done)
            | skip
              refine AL.gno rfl rfl hg3 ?_
              refine AL.gno rfl rfl hg3 ?_
              refine AL.gno rfl rfl hg3 ?_
              refine AL.q rfl (OQ.pickT rfl hg3 (by conv => lhs; whnf)) ?_
              refine AL.q rfl (OQ.move (by conv => lhs; whnf)) ?_
              refine AL.gno rfl rfl rfl ?_
              refine AL.gno rfl rfl rfl ?_
              refine AL.gno rfl rfl rfl ?_
              refine AL.gno rfl rfl rfl ?_
              refine AL.q rfl (OQ.pickT rfl rfl (by conv => lhs; whnf)) ?_
              conv => (arg 5; try simp only [T.put, T.ev, putAt, setsT, newBlks, fillL, List.map, List.set, List.append, List.cons_append, List.nil_append, List.length, List.getElem?_cons_zero, List.getElem?_cons_succ, Nat.reduceAdd, Nat.reduceMul, Nat.zero_add, Nat.add_zero, Nat.mul_one, Nat.zero_mul, List.drop, List.take, List.toList_toArray, Value.cells, Int.reduceToNat, Int.toNat_natCast, List.getD, Option.getD, Option.map, flat, flat1, scal, if_true, ↓reduceIte])
              refine AL.nil ?_
              refine Then.n ?_
              refine AW.condT rfl rfl ?_
              refine AW.seq ?_
              refine AW.region ?_
              refine AL.q rfl (OQ.assign (by conv => lhs; whnf)) ?_
              conv => (arg 5; try simp only [T.put, T.ev, putAt, setsT, newBlks, fillL, List.map, List.set, List.append, List.cons_append, List.nil_append, List.length, List.getElem?_cons_zero, List.getElem?_cons_succ, Nat.reduceAdd, Nat.reduceMul, Nat.zero_add, Nat.add_zero, Nat.mul_one, Nat.zero_mul, List.drop, List.take, List.toList_toArray, Value.cells, Int.reduceToNat, Int.toNat_natCast, List.getD, Option.getD, Option.map, flat, flat1, scal, if_true, ↓reduceIte])
              refine AL.nil ?_
              refine Then.n ?_
              refine AW.ret ?_
              refine Then.r ?_
              refine FinP.ret (.tmp (by conv => lhs; whnf) .nil) ?_ rfl
              (try simp only [pack, List.drop, List.take])
              all_goals (rfl)
      · have hg2_ := hg2; (try simp only [decide_eq_true_eq, decide_eq_false_iff_not, Bool.not_true, Bool.not_false, Bool.not_eq_true', Bool.not_eq_false', Int.not_lt, Int.not_le, Classical.not_not, ne_eq] at hg2_)
        first
        | (exfalso; simp at hg2_; done)
        | (exfalso; omega; done)
        | skip
          refine AL.gno rfl rfl hg2 ?_
          refine AL.gno rfl rfl hg2 ?_
          refine AL.gno rfl rfl hg2 ?_
          refine AL.q rfl (OQ.pickT rfl hg2 (by conv => lhs; whnf)) ?_
          refine AL.q rfl (OQ.move (by conv => lhs; whnf)) ?_
          refine AL.gno rfl rfl rfl ?_
          refine AL.gno rfl rfl rfl ?_
          refine AL.gno rfl rfl rfl ?_
          refine AL.gno rfl rfl rfl ?_
          refine AL.q rfl (OQ.pickT rfl rfl (by conv => lhs; whnf)) ?_
          refine AL.q rfl (OQ.move (by conv => lhs; whnf)) ?_
          refine AL.gno rfl rfl rfl ?_
          refine AL.gno rfl rfl rfl ?_
          refine AL.gno rfl rfl rfl ?_
          refine AL.gno rfl rfl rfl ?_
          refine AL.q rfl (OQ.pickT rfl rfl (by conv => lhs; whnf)) ?_
          conv => (arg 5; try simp only [T.put, T.ev, putAt, setsT, newBlks, fillL, List.map, List.set, List.append, List.cons_append, List.nil_append, List.length, List.getElem?_cons_zero, List.getElem?_cons_succ, Nat.reduceAdd, Nat.reduceMul, Nat.zero_add, Nat.add_zero, Nat.mul_one, Nat.zero_mul, List.drop, List.take, List.toList_toArray, Value.cells, Int.reduceToNat, Int.toNat_natCast, List.getD, Option.getD, Option.map, flat, flat1, scal, if_true, ↓reduceIte])
          refine AL.nil ?_
          refine Then.n ?_
          refine AW.condT rfl rfl ?_
          refine AW.seq ?_
          refine AW.region ?_
          refine AL.q rfl (OQ.assign (by conv => lhs; whnf)) ?_
          conv => (arg 5; try simp only [T.put, T.ev, putAt, setsT, newBlks, fillL, List.map, List.set, List.append, List.cons_append, List.nil_append, List.length, List.getElem?_cons_zero, List.getElem?_cons_succ, Nat.reduceAdd, Nat.reduceMul, Nat.zero_add, Nat.add_zero, Nat.mul_one, Nat.zero_mul, List.drop, List.take, List.toList_toArray, Value.cells, Int.reduceToNat, Int.toNat_natCast, List.getD, Option.getD, Option.map, flat, flat1, scal, if_true, ↓reduceIte])
          refine AL.nil ?_
          refine Then.n ?_
          refine AW.ret ?_
          refine Then.r ?_
          refine FinP.ret (.tmp (by conv => lhs; whnf) .nil) ?_ rfl
          (try simp only [pack, List.drop, List.take])
          all_goals (rfl)

theorem walk (nm : ByteArray) (bd we wb t : Int) (a : Option Addr) (l : List St) (cap : Nat) (w : World) (hnm : nm.size ≤ maxLen) (hcap : l.length ≤ cap) (hcm : cap ≤ maxLen) (hS : SlSts w a l) :
    Calls Try.prog 5 #[obV nm bd a l.length cap, .agg #[.int .i64 we, .int .i64 wb], .int .i64 t] w fun e w' => e = .returned (.bool true) ∧ Below w.heap.size w w' := by
  simp only [maxLen] at hnm hcm
  cases hf : fewB nm.size l.length with
  | false => exact walk_few_no nm bd we wb t a l.length cap w (by omega) (by omega) hf
  | true =>
    have hO : OrbIn w nm a cap l := ⟨by have := (fewB_spec hf).1; omega, hS, hcap, by omega⟩
    by_cases h : atE nm.data.toList bd l t = 0
    · cases h1 : rngB we 0 100000 with
      | false => exact walk_out nm bd we wb t a cap l w hO hf (.inr (.inl ⟨h, h1⟩))
      | true =>
        cases h2 : rngB wb 0 100000 with
        | false => exact walk_out nm bd we wb t a cap l w hO hf (.inr (.inr ⟨h, h1, h2⟩))
        | true =>
          obtain ⟨hR, t0, t1⟩ := atE_zero h
          have hn2 := hR.n2
          obtain ⟨b, off, rfl, hbw, hmem⟩ := hO.mem hR
          by_cases hY : (orbE nm.data.toList (bd + wb) (l.map (wid we))).2 = 0
          · exact calls_ob (us := [_, _]) (main_p nm bd we wb t l hO.nm hR t0 t1 h hf (rngB_true.1 h1) (rngB_true.1 h2) hY) rfl rfl hmem hbw (by omega) hcap
          · exact calls_ob (us := [_, _]) (none_p nm bd we wb t l hO.nm hR h hf (rngB_true.1 h1) (rngB_true.1 h2) hY) rfl rfl hmem hbw (by omega) hcap
    · exact walk_out nm bd we wb t a cap l w hO hf (.inl h)
end Go.Proofs.Ytaoennekamlfeaa.OrbitWidens
