/- OrbitAgrees: small contracts: alone, joined, boxes, the test of Touched, runs of it. -/
/- OrbitAgrees: Touched of the program. -/
/- OrbitAgrees: Agree of both sides; differ and Touched of the reference. -/
import Derived.Test.YthhhkjbhhjcjoaaGreatDoor02jn
import Derived.Test.YthhhkjbhhjcjoaaGreatDoor02w
set_option linter.unusedSimpArgs false
set_option linter.unusedVariables false
section
namespace Go.Proofs.YthhhkjbhhjcjoaaGreatDoor
open Go Go.RowKit Go.Ob Go.Ab
set_option maxRecDepth 100000
set_option maxHeartbeats 2000000
attribute [local irreducible] OQ OW AL AW AD AF SW
theorem eqr_t60 (d : Nat) (w : World) (a0 a1 b0 b1 : Int) : (Op.equalIn (d + 2) 60 (.agg #[.int .i64 a0, .int .i64 a1]) (.agg #[.int .i64 b0, .int .i64 b1])).run Tryz.prog w = .ok (decide ((a0, a1) = (b0, b1))) w := by
  unfold Op.equalIn
  simp [Tryz.underlying60, run_underlying, go_sem, List.forIn_cons]
  by_cases h0 : a0 = b0
  case neg => simp [h0]
  by_cases h1 : a1 = b1
  case neg => simp [h0, h1]
  simp [h0, h1]
theorem nel_t60 {t : T} {m : Mem} {dst : Option Tmp} {rt ty' : TypeId} {pos : String} {after : Array Edge} {guard : Option (Nat × Bool)} {x y : Operand} {a0 a1 b0 b1 : Int} (hx : t.ev x = (.agg #[.int .i64 a0, .int .i64 a1])) (hy : t.ev y = (.agg #[.int .i64 b0, .int .i64 b1])) :
    OQ Tryz.prog ⟨dst, .binOp .neq 60 x y ty', rt, pos, after, guard⟩ t m (.bool (!(decide ((a0, a1) = (b0, b1))))) := by
  refine OQ.closed (fun cs b => by simp) (fun z hz => ?_) (fun w => ?_) rfl
  · simp [Op.operands] at hz
    rcases hz with rfl | rfl
    · rw [hx]; rfl
    · rw [hy]; rfl
  · have e := eqr_t60 9998 w a0 a1 b0 b1
    have hgt : (Tryz.prog).eqGuardType (Tryz.prog).depth 60 = false := by kernel_rfl
    have hg : (eqGuard .neq 60 x y (t.ev x) (t.ev y)).run Tryz.prog w = .ok () w := by
      rw [hx, hy]
      simp [eqGuard, program, Sem.run, Sem.run_bind, hgt]
    rw [hx, hy] at hg
    simp only [execOp, hx, hy, Sem.run_bind, hg, Result.andThen_ok, binOp, Op.equal, Op.maxDepth]
    erw [e]
    simp [go_sem]
theorem eqr_t132 (d : Nat) (w : World) (a0 a1 a2 a3 a4 a5 b0 b1 b2 b3 b4 b5 : Int) : (Op.equalIn (d + 3) 132 (.agg #[.int .i64 a0, .int .i64 a1, .int .i64 a2, .int .i64 a3, .int .i64 a4, .int .i64 a5]) (.agg #[.int .i64 b0, .int .i64 b1, .int .i64 b2, .int .i64 b3, .int .i64 b4, .int .i64 b5])).run Tryz.prog w = .ok (decide ((a0, a1, a2, a3, a4, a5) = (b0, b1, b2, b3, b4, b5))) w := by
  have z60 : (Go.sizeOf 60).run Tryz.prog w = .ok 2 w := by go_simp
  unfold Op.equalIn
  simp [Tryz.underlying132, run_underlying, go_sem, List.range', List.forIn_cons, eqr_t60, z60]
  by_cases h0 : a0 = b0
  case neg => simp [h0]
  by_cases h1 : a1 = b1
  case neg => simp [h0, h1]
  by_cases h2 : a2 = b2
  case neg => simp [h0, h1, h2]
  by_cases h3 : a3 = b3
  case neg => simp [h0, h1, h2, h3]
  by_cases h4 : a4 = b4
  case neg => simp [h0, h1, h2, h3, h4]
  by_cases h5 : a5 = b5
  case neg => simp [h0, h1, h2, h3, h4, h5]
  simp [h0, h1, h2, h3, h4, h5]
theorem nel_t132 {t : T} {m : Mem} {dst : Option Tmp} {rt ty' : TypeId} {pos : String} {after : Array Edge} {guard : Option (Nat × Bool)} {x y : Operand} {a0 a1 a2 a3 a4 a5 b0 b1 b2 b3 b4 b5 : Int} (hx : t.ev x = (.agg #[.int .i64 a0, .int .i64 a1, .int .i64 a2, .int .i64 a3, .int .i64 a4, .int .i64 a5])) (hy : t.ev y = (.agg #[.int .i64 b0, .int .i64 b1, .int .i64 b2, .int .i64 b3, .int .i64 b4, .int .i64 b5])) :
    OQ Tryz.prog ⟨dst, .binOp .neq 132 x y ty', rt, pos, after, guard⟩ t m (.bool (!(decide ((a0, a1, a2, a3, a4, a5) = (b0, b1, b2, b3, b4, b5))))) := by
  refine OQ.closed (fun cs b => by simp) (fun z hz => ?_) (fun w => ?_) rfl
  · simp [Op.operands] at hz
    rcases hz with rfl | rfl
    · rw [hx]; rfl
    · rw [hy]; rfl
  · have e := eqr_t132 9997 w a0 a1 a2 a3 a4 a5 b0 b1 b2 b3 b4 b5
    have hgt : (Tryz.prog).eqGuardType (Tryz.prog).depth 132 = false := by kernel_rfl
    have hg : (eqGuard .neq 132 x y (t.ev x) (t.ev y)).run Tryz.prog w = .ok () w := by
      rw [hx, hy]
      simp [eqGuard, program, Sem.run, Sem.run_bind, hgt]
    rw [hx, hy] at hg
    simp only [execOp, hx, hy, Sem.run_bind, hg, Result.andThen_ok, binOp, Op.equal, Op.maxDepth]
    erw [e]
    simp [go_sem]
theorem eqr_t64 (d : Nat) (w : World) (a0 a1 a2 a3 a4 a5 b0 b1 b2 b3 b4 b5 : Int) : (Op.equalIn (d + 3) 64 (.agg #[.int .i64 a0, .int .i64 a1, .int .i64 a2, .int .i64 a3, .int .i64 a4, .int .i64 a5]) (.agg #[.int .i64 b0, .int .i64 b1, .int .i64 b2, .int .i64 b3, .int .i64 b4, .int .i64 b5])).run Tryz.prog w = .ok (decide ((a0, a1, a2, a3, a4, a5) = (b0, b1, b2, b3, b4, b5))) w := by
  have z60 : (Go.sizeOf 60).run Tryz.prog w = .ok 2 w := by go_simp
  unfold Op.equalIn
  simp [Tryz.underlying64, run_underlying, go_sem, List.range', List.forIn_cons, eqr_t60, z60]
  by_cases h0 : a0 = b0
  case neg => simp [h0]
  by_cases h1 : a1 = b1
  case neg => simp [h0, h1]
  by_cases h2 : a2 = b2
  case neg => simp [h0, h1, h2]
  by_cases h3 : a3 = b3
  case neg => simp [h0, h1, h2, h3]
  by_cases h4 : a4 = b4
  case neg => simp [h0, h1, h2, h3, h4]
  by_cases h5 : a5 = b5
  case neg => simp [h0, h1, h2, h3, h4, h5]
  simp [h0, h1, h2, h3, h4, h5]
theorem eql_t64 {t : T} {m : Mem} {dst : Option Tmp} {rt ty' : TypeId} {pos : String} {after : Array Edge} {guard : Option (Nat × Bool)} {x y : Operand} {a0 a1 a2 a3 a4 a5 b0 b1 b2 b3 b4 b5 : Int} (hx : t.ev x = (.agg #[.int .i64 a0, .int .i64 a1, .int .i64 a2, .int .i64 a3, .int .i64 a4, .int .i64 a5])) (hy : t.ev y = (.agg #[.int .i64 b0, .int .i64 b1, .int .i64 b2, .int .i64 b3, .int .i64 b4, .int .i64 b5])) :
    OQ Tryz.prog ⟨dst, .binOp .eql 64 x y ty', rt, pos, after, guard⟩ t m (.bool (decide ((a0, a1, a2, a3, a4, a5) = (b0, b1, b2, b3, b4, b5)))) := by
  refine OQ.closed (fun cs b => by simp) (fun z hz => ?_) (fun w => ?_) rfl
  · simp [Op.operands] at hz
    rcases hz with rfl | rfl
    · rw [hx]; rfl
    · rw [hy]; rfl
  · have e := eqr_t64 9997 w a0 a1 a2 a3 a4 a5 b0 b1 b2 b3 b4 b5
    have hgt : (Tryz.prog).eqGuardType (Tryz.prog).depth 64 = false := by kernel_rfl
    have hg : (eqGuard .eql 64 x y (t.ev x) (t.ev y)).run Tryz.prog w = .ok () w := by
      rw [hx, hy]
      simp [eqGuard, program, Sem.run, Sem.run_bind, hgt]
    rw [hx, hy] at hg
    simp only [execOp, hx, hy, Sem.run_bind, hg, Result.andThen_ok, binOp, Op.equal, Op.maxDepth]
    erw [e]
    simp [go_sem]
section
variable {m : Mem} {v : Value} {l : List St} {nm : ByteArray} {bd : Int}
theorem ticks_t (hS : SlB m v l) (ho : Ors nm l) (hR : Right bd l) : PCalls Tryz.prog 64 [obW nm bd v] m (.agg #[.int .i64 (frstT l), .int .i64 (lastT l)]) :=
  of_sl hS ho rfl rfl fun w a cap hO => by
    obtain ⟨b, off, rfl, hbw, hmem⟩ := hO.mem hR
    exact ticks_any nm bd b off cap l w hmem hbw (by have := hR.n2; omega) (by have := hR.n40; omega) hO.cap
theorem box_q (hS : SlB m v l) (ho : Ors nm l) (hR : Right bd l) (t : Int) (h0 : frstT l ≤ t) (h1 : t ≤ lastT l) : PCalls Tryz.prog 69 [obW nm bd v, .int .i64 t] m (bxV (bx bd l t)) :=
  of_sl hS ho rfl rfl fun w a cap hO => by
    obtain ⟨b, off, rfl, hbw, hmem⟩ := hO.mem hR
    exact box_any nm bd t b off cap l w hR h0 h1 hmem hbw hO.cap
end
theorem fl_le {bd : Int} {l : List St} (hR : Right bd l) : frstT l ≤ lastT l ∧ 0 ≤ frstT l ∧ lastT l ≤ 1000000000 := by
  have hl := hR.n2
  have h := hR.le 0 (l.length - 1) (by omega) (by omega)
  exact ⟨h, (hR.ok 0 (by omega)).t0, (hR.ok (l.length - 1) (by omega)).t1⟩
theorem rgVc_nil (c b : Nat) : rgVc c b [] = .slice none 0 0 := rfl
theorem rgVc_one (c b : Nat) (r : Int × Int) : rgVc c b [r] = .slice (some ⟨b, 0, none⟩) 1 c := rfl
theorem rgB_one (r : Int × Int) : rgB [r] = some ⟨[.int .i64 r.1, .int .i64 r.2], true, 2⟩ := rfl
theorem rgVc_rn2 (σ : Nat → Nat) (c b : Nat) (L : List (Int × Int)) : rn2 σ (rgVc c b L) = rgVc c (σ b) L := by
  unfold rgVc
  split <;> rfl
theorem rgVc_ok2 {n c b : Nat} (L : List (Int × Int)) (h : b < n) : ok2 n (rgVc c b L) = true := by
  unfold rgVc
  split
  · rfl
  · simp [ok2, ok1, h]
/-- The ticks of an orbit alone. -/
theorem alone_c (nm : ByteArray) (bd lo hi : Int) (l : List St) (z : Nat) (hn : nm.size ≤ 1000) (hR : Right bd l) (hlo : -2000000000 ≤ lo ∧ lo ≤ 2000000000) (hhi : -2000000000 ≤ hi ∧ hi ≤ 2000000000) :
    ACalls Tryz.prog 66 [obI nm bd 0 l, .int .i64 lo, .int .i64 hi] [some ⟨flatS l, false, z⟩] (.tuple #[rgVc 1 1 (befR (frstT l) (lastT l) lo), rgVc 1 2 (aftR (frstT l) (lastT l) hi)])
      [some ⟨flatS l, false, z⟩, rgB (befR (frstT l) (lastT l) lo), rgB (aftR (frstT l) (lastT l) hi)] := by
  have ho := Ors.of_right hn hR
  have HT := fun (m : Mem) (v : Value) (hS : SlB m v l) => ticks_t (bd := bd) hS ho hR
  obtain ⟨h1, h2, h3⟩ := fl_le hR
  generalize frstT l = x0 at *
  generalize lastT l = x1 at *
  have hb : (x0 ≤ (if lo - 1 < x1 then lo - 1 else x1) ∧ befR x0 x1 lo = [(x0, if lo - 1 < x1 then lo - 1 else x1)]) ∨ (¬ x0 ≤ (if lo - 1 < x1 then lo - 1 else x1) ∧ befR x0 x1 lo = []) := by
    by_cases h : x0 ≤ (if lo - 1 < x1 then lo - 1 else x1)
    · exact .inl ⟨h, if_pos h⟩
    · exact .inr ⟨h, if_neg h⟩
  have ha : ((if x0 < hi + 1 then hi + 1 else x0) ≤ x1 ∧ aftR x0 x1 hi = [(if x0 < hi + 1 then hi + 1 else x0, x1)]) ∨ (¬ (if x0 < hi + 1 then hi + 1 else x0) ≤ x1 ∧ aftR x0 x1 hi = []) := by
    by_cases h : (if x0 < hi + 1 then hi + 1 else x0) ≤ x1
    · exact .inl ⟨h, if_pos h⟩
    · exact .inr ⟨h, if_neg h⟩
  rcases hb with ⟨hb, hb'⟩ | ⟨hb, hb'⟩ <;> rcases ha with ⟨ha, ha'⟩ | ⟨ha, ha'⟩ <;> rw [hb', ha'] <;> (try rw [rgVc_one]) <;> (try rw [rgVc_nil]) <;> (try rw [rgB_one]) <;> (try rw [rgB_nil]) <;> (try rw [rgVc_one]) <;> (try rw [rgVc_nil]) <;> (try rw [rgB_one]) <;> (try rw [rgB_nil]) <;> clear hb' ha'
  all_goals
    refine ACalls.enter (t := [obI nm bd 0 l, .int .i64 lo, .int .i64 hi, undef, undef, undef, undef, undef, undef, undef, undef, undef, undef, undef, undef, undef, undef, undef, undef, undef, undef, undef, undef, undef, undef, undef, undef, undef, undef, undef, undef, undef, undef, undef, undef, undef, undef, undef, undef, undef, undef, undef, undef]) Tryz.func66 rfl rfl fun E hE => ?_
    repeat' (first
      | with_reducible refine Then.n ?_
      | with_reducible refine Then.r ?_
      | with_reducible refine Then.x ?_
      | with_reducible refine InB.n ?_
      | with_reducible refine InB.r ?_
      | with_reducible refine InB.hit ?_
      | with_reducible refine InB.miss (by decide) ?_
      | ((with_reducible refine AL.on ?_); first
        | ((first | ((with_reducible refine AL.k_assign ?_); first | (refine AL.q rfl (OQ.assign (by conv => lhs; whnf)) ?_)) | ((with_reducible refine AL.k_move ?_); first | (refine AL.q rfl (OQ.move (by conv => lhs; whnf)) ?_)) | ((with_reducible refine AL.k_load ?_); first | refine AL.q rfl (OQ.loadN (ty := 123) (n := 3) rfl (by kernel_rfl) (by kernel_rfl) rfl) ?_ | (refine AL.q rfl (OQ.load1 (ty := 3) rfl (by kernel_rfl) (by conv => lhs; whnf)) ?_)) | ((with_reducible refine AL.k_fieldAddr ?_); first | refine AL.q rfl (OQ.fieldA (ty := 60) (i := 1) (n := 1) (off := 1) (g := false) rfl (by kernel_rfl) (by decide)) ?_ | refine AL.q rfl (OQ.fieldA (ty := 60) (i := 0) (n := 1) (off := 0) (g := false) rfl (by kernel_rfl) (by decide)) ?_) | ((with_reducible refine AL.k_binOp ?_); first | refine AL.q rfl (OQ.subi rfl rfl (by omega)) ?_ | refine AL.q rfl (OQ.sub rfl rfl) ?_ | refine AL.q rfl (OQ.leq rfl rfl) ?_ | refine AL.q rfl (OQ.addi rfl rfl (by omega)) ?_ | refine AL.q rfl (OQ.add rfl rfl) ?_) | ((with_reducible refine AL.k_call ?_); first | refine AL.q rfl (OQ.min2 rfl rfl) ?_ | refine AL.q rfl (OQ.max2 rfl rfl) ?_)); (conv => (arg 5; try tactic => exact nrm)))
        | ((first | ((with_reducible refine AL.k_call ?_); first | refine AL.pcall (g := 64) rfl (by kernel_rfl) rfl (HT _ _ (.blk 0 _ rfl rfl rfl)) ?_) | ((with_reducible refine AL.k_build ?_); first | refine AL.q rfl (OQ.buildS (ty := 60) (zs := [.int .i64 0, .int .i64 0]) (pls := [(0, 1), (1, 1)]) (by kernel_rfl) rfl (by kernel_rfl) rfl rfl rfl) ?_)); (conv => (arg 5; try tactic => exact nrm)))
        | ((first | ((with_reducible refine AL.k_buildSlice ?_); first | refine AL.w rfl (OW.buildSl (ty := 55) (zs := [.int .i64 0, .int .i64 0]) (n := 2) (g := true) (by kernel_rfl) (by kernel_rfl) rfl rfl rfl (by decide) (by decide) rfl rfl) ?_) | ((with_reducible refine AL.k_box ?_); first | (refine AL.w rfl (OW.box (by conv => lhs; whnf) (by intro r h; cases h)) ?_)) | ((with_reducible refine AL.k_alloc ?_); first | refine AL.w rfl (OW.alloc (ty := 60) (z := [.int .i64 0, .int .i64 0]) (by kernel_rfl) rfl) ?_) | ((with_reducible refine AL.k_store ?_); first | (refine AL.w rfl (OW.store (ty := 60) (n := 2) rfl (by conv => lhs; whnf) rfl rfl (by kernel_rfl) rfl rfl (by decide) rfl (Nat.le_of_ble_eq_true rfl) (by intro r h; cases h)) ?_))); (conv => (arg 5; try tactic => exact nrm)); (conv => (arg 6; try tactic => exact nrm)))
        | refine AL.nil ?_)
      | ((with_reducible refine AW.on ?_); first
        | refine AW.seq ?_
        | refine AW.skip ?_
        | refine AW.exit ?_
        | refine AW.ret ?_
        | refine AW.block ?_
        | refine AW.region ?_
        | (refine AW.conds rfl (fun hc => ?_) (fun hc => ?_) <;> (try simp only [decide_eq_true_eq, decide_eq_false_iff_not, Bool.not_true, Bool.not_false, Bool.not_eq_true', Bool.not_eq_false', Int.not_lt, Int.not_le, Classical.not_not, ne_eq] at hc) <;> first | (exfalso; first | contradiction | (first | omega | (simp_all; done)); done) | skip))
      | ((with_reducible refine FinA.on ?_); first | (refine FinA.keep 1 [3, 4] (.inl rfl) (.tmp (by conv => lhs; whnf) (.tmp (by conv => lhs; whnf) .nil)) ?_ rfl (Nat.le_of_eq hE) rfl rfl ⟨⟨_, rfl, rfl, rfl, .inl ⟨rfl, flatS_scal l⟩⟩, ⟨_, rfl, rfl, rfl, .inl ⟨rfl, rfl⟩⟩, ⟨_, rfl, rfl, rfl, .inl ⟨rfl, rfl⟩⟩, trivial⟩; rfl) | (refine FinA.keep 1 [3, 4] (.inl rfl) (.tmp (by conv => lhs; whnf) (.tmp (by conv => lhs; whnf) .nil)) ?_ rfl (Nat.le_of_eq hE) rfl rfl ⟨⟨_, rfl, rfl, rfl, .inl ⟨rfl, flatS_scal l⟩⟩, ⟨_, rfl, rfl, rfl, .inl ⟨rfl, rfl⟩⟩, trivial⟩; rfl) | (refine FinA.keep 1 [4, 3] (.inl rfl) (.tmp (by conv => lhs; whnf) (.tmp (by conv => lhs; whnf) .nil)) ?_ rfl (Nat.le_of_eq hE) rfl rfl ⟨⟨_, rfl, rfl, rfl, .inl ⟨rfl, flatS_scal l⟩⟩, ⟨_, rfl, rfl, rfl, .inl ⟨rfl, rfl⟩⟩, trivial⟩; rfl) | (refine FinA.keep 1 [3, 4] (.inl rfl) (.tmp (by conv => lhs; whnf) (.tmp (by conv => lhs; whnf) .nil)) ?_ rfl (Nat.le_of_eq hE) rfl rfl ⟨⟨_, rfl, rfl, rfl, .inl ⟨rfl, flatS_scal l⟩⟩, trivial⟩; rfl)))

theorem rgB_bR (κ : Nat → Nat) (n : Nat) (L : List (Int × Int)) : bR κ n (rgB L) (rgB L) := by
  unfold rgB
  split
  · trivial
  · exact ⟨rfl, rfl, rfl, .inl ⟨rfl, flatR_scal L⟩⟩
theorem alone_q {m : Mem} {i : Nat} {blk : Blk} (nm : ByteArray) (bd lo hi : Int) {l : List St} (g1 : m.at i = some blk) (g2 : blk.cells = flatS l) (hn : nm.size ≤ 1000) (hR : Right bd l) (hlo : -2000000000 ≤ lo ∧ lo ≤ 2000000000) (hhi : -2000000000 ≤ hi ∧ hi ≤ 2000000000) :
    ACalls Tryz.prog 66 [obI nm bd i l, .int .i64 lo, .int .i64 hi] m (.tuple #[rgVc 1 m.length (befR (frstT l) (lastT l) lo), rgVc 1 (m.length + 1) (aftR (frstT l) (lastT l) hi)])
      (m ++ [rgB (befR (frstT l) (lastT l) lo), rgB (aftR (frstT l) (lastT l) hi)]) := by
  refine ACalls.viaS [i] [] [rgB (befR (frstT l) (lastT l) lo), rgB (aftR (frstT l) (lastT l) hi)] (alone_c nm bd lo hi l blk.esz hn hR hlo hhi) ⟨⟨blk, g1, rfl, (fun h => nomatch h), .inl ⟨g2, flatS_scal l⟩⟩, trivial⟩ (by simp) ⟨⟨_, rfl, rfl⟩, rgB_bR _ _ _, rgB_bR _ _ _, trivial⟩ rfl rfl ?_ ?_
  · show Value.tuple #[rn2 _ (rgVc 1 1 _), rn2 _ (rgVc 1 2 _)] = _
    rw [rgVc_rn2, rgVc_rn2]
    simp [τn]
  · simp [ok3, rgVc_ok2]

theorem joined_q2 {m : Mem} {b c : Nat} {blk : Blk} {L : List (Int × Int)} (hb : m.at b = some blk) (hc : blk.cells = flatR L) (hl : L.length ≤ 5000) (hbd : ∀ r ∈ L, -1000000000000 ≤ r.1 ∧ r.1 ≤ 1000000000000) :
    ACalls Tryz.prog 65 [.slice (some ⟨b, 0, none⟩) L.length c] m (rgV m.length (L.foldl jn1 [])) (m ++ [rgB (L.foldl jn1 [])]) := by
  have h := joined_c L blk.esz hl (fun k hk => hbd _ (by unfold rg_; rw [List.getD_eq_getElem?_getD, List.getElem?_eq_getElem hk]; exact List.getElem_mem hk)) c
  rw [jnTo_all] at h
  refine ACalls.viaN (m0 := [some ⟨flatR L, false, blk.esz⟩]) (fun _ => b) h (fun x bk hx => ?_) here1 (rgB_scal _) rfl rfl (by rw [rgV_rn]; rfl) (rgV_ok _ (by simp))
  have := Mem.at_lt hx
  simp at this
  subst this
  simp [Mem.at] at hx
  subst hx
  refine ⟨rfl, ok1_of_scal (flatR_scal L), blk, hb, rfl, fun i v hv => ?_⟩
  rw [rn1_scal (List.all_eq_true.1 (flatR_scal L) v (List.mem_of_getElem? hv)), hc]
  exact hv
theorem joined_q {m : Mem} {b : Nat} {L : List (Int × Int)} (hb : m.at b = rgB L) (hne : L ≠ []) (hl : L.length ≤ 5000) (hbd : ∀ r ∈ L, -1000000000000 ≤ r.1 ∧ r.1 ≤ 1000000000000) :
    ACalls Tryz.prog 65 [rgV b L] m (rgV m.length (L.foldl jn1 [])) (m ++ [rgB (L.foldl jn1 [])]) := by
  rw [show rgV b L = .slice (some ⟨b, 0, none⟩) L.length INF from if_neg hne]
  exact joined_q2 (blk := ⟨flatR L, true, 2⟩) (by rw [hb]; exact if_neg hne) rfl hl hbd
theorem joined_nil (m : Mem) : PCalls Tryz.prog 65 [.slice none 0 0] m (.slice none 0 0) := by
  refine PCalls.any ?_ rfl rfl m
  refine PCalls.enter (t := [.slice none 0 0, undef, undef, undef, undef, undef, undef, undef, undef, undef, undef, undef, undef, undef, undef, undef, undef, undef, undef, undef, undef, undef, undef, undef, undef, undef, undef, undef, undef, undef, undef, undef, undef, undef, undef, undef, undef, undef, undef, undef, undef, undef]) Tryz.func65 rfl (ro_nil) rfl fun E => ?_
  repeat' (first
    | with_reducible refine Then.n ?_
    | with_reducible refine Then.r ?_
    | with_reducible refine Then.x ?_
    | with_reducible refine InB.n ?_
    | with_reducible refine InB.r ?_
    | with_reducible refine InB.hit ?_
    | with_reducible refine InB.miss (by decide) ?_
    | ((with_reducible refine AL.on ?_); first
      | ((first | ((with_reducible refine AL.k_move ?_); first | (refine AL.q rfl (OQ.move (by conv => lhs; whnf)) ?_)) | ((with_reducible refine AL.k_binOp ?_); first | refine AL.q rfl (OQ.lss rfl rfl) ?_ | refine AL.q rfl (OQ.subi rfl rfl (by omega)) ?_ | refine AL.q rfl (OQ.sub rfl rfl) ?_ | refine AL.q rfl (OQ.addi rfl rfl (by omega)) ?_ | refine AL.q rfl (OQ.add rfl rfl) ?_) | ((with_reducible refine AL.k_assign ?_); first | (refine AL.q rfl (OQ.assign (by conv => lhs; whnf)) ?_)) | ((with_reducible refine AL.k_load ?_); first | refine AL.q rfl (OQ.loadN (ty := 60) (n := 2) rfl (by kernel_rfl) (by kernel_rfl) rfl) ?_ | (refine AL.q rfl (OQ.load1 (ty := 3) rfl (by kernel_rfl) (by conv => lhs; whnf)) ?_)) | ((with_reducible refine AL.k_fieldAddr ?_); first | refine AL.q rfl (OQ.fieldA (ty := 60) (i := 1) (n := 1) (off := 1) (g := false) rfl (by kernel_rfl) (by decide)) ?_) | ((with_reducible refine AL.k_call ?_); first | refine AL.q rfl (OQ.lenS (xt := 55) (r := (none, 2, true)) rfl (by kernel_rfl)) ?_) | ((with_reducible refine AL.k_indexAddr ?_); first | refine AL.q rfl (OQ.idxAddr (ty := 55) (z := 2) (g := true) rfl rfl (by kernel_rfl) (by omega) (by omega)) ?_)); (conv => (arg 5; try tactic => exact nrm)))
      | ((first | ((with_reducible refine AL.k_call ?_); first | refine AL.w rfl (by first | exact OW.appendNil (e := 60) (z := 2) (zs := [.int .i64 0, .int .i64 0]) (by' := 16) rfl rfl (by kernel_rfl) (by kernel_rfl) (by kernel_rfl) rfl (by kernel_rfl) (by decide) rfl (by decide) (by decide) | exact OW.appendL (e := 60) (z := 2) (zs := [.int .i64 0, .int .i64 0]) (by' := 16) rfl rfl (by kernel_rfl) (by kernel_rfl) (by kernel_rfl) rfl (by kernel_rfl) (by decide) rfl rfl rfl (by decide) (by omega) rfl rfl (by omega) (by omega)) ?_) | ((with_reducible refine AL.k_store ?_); first | (refine AL.w rfl (OW.store (ty := 60) (n := 2) rfl (by conv => lhs; whnf) rfl rfl (by kernel_rfl) rfl rfl (by decide) rfl (Nat.le_of_ble_eq_true rfl) (by intro r h; cases h)) ?_) | (refine AL.w rfl (OW.store (ty := 3) (n := 1) rfl (by conv => lhs; whnf) rfl rfl (by kernel_rfl) rfl rfl (by decide) rfl (Nat.le_of_ble_eq_true rfl) (by intro r h; cases h)) ?_)) | ((with_reducible refine AL.k_alloc ?_); first | refine AL.w rfl (OW.alloc (ty := 60) (z := [.int .i64 0, .int .i64 0]) (by kernel_rfl) rfl) ?_) | ((with_reducible refine AL.k_buildSlice ?_); first | refine AL.w rfl (OW.buildSl (ty := 55) (zs := [.int .i64 0, .int .i64 0]) (n := 2) (g := true) (by kernel_rfl) (by kernel_rfl) rfl rfl rfl (by decide) (by decide) rfl rfl) ?_)); (conv => (arg 5; try tactic => exact nrm)); (conv => (arg 6; try tactic => exact nrm)))
      | refine AL.nil ?_)
    | ((with_reducible refine AW.on ?_); first
      | refine AW.seq ?_
      | refine AW.skip ?_
      | refine AW.exit ?_
      | refine AW.ret ?_
      | (refine AW.block (id := 0) ?_; refine AW.unroll 1 ?_)
      | refine AW.block ?_
      | (refine AW.draw (id := 6) 14 #[0, 1, 3, 7, 7, 23, 63, 127, 255, 7, 519, 1543, 4095, 8191] (by kernel_rfl) (by kernel_rfl) ?_; (conv => (arg 8; simp only [List.take_succ_cons, List.take_zero])))
      | refine AW.region ?_
      | (refine AW.conds rfl (fun hc => ?_) (fun hc => ?_) <;> (try simp only [decide_eq_true_eq, decide_eq_false_iff_not, Bool.not_true, Bool.not_false, Bool.not_eq_true', Bool.not_eq_false', Int.not_lt, Int.not_le, Classical.not_not, ne_eq] at hc) <;> first | (exfalso; first | contradiction | (first | omega | (simp at *; done)); done) | skip))
    | ((with_reducible refine AD.on ?_); first
      | (refine AD.gskip rfl rfl rfl ?_; (conv => (arg 10; try tactic => exact nrm)))
      | ((first | refine AD.gn1 rfl rfl (by with_reducible rfl) rfl ?_ | refine AD.gn0 rfl rfl (by with_reducible rfl) rfl ?_); (conv => (arg 10; try tactic => exact nrm)))
      | ((first | ((with_reducible refine AD.k_move ?_); first | (refine AD.q rfl (OQ.move (by conv => lhs; whnf)) rfl rfl rfl ?_) | (refine AD.qc rfl rfl (by with_reducible rfl) (OQ.move (by conv => lhs; whnf)) rfl rfl rfl ?_)) | ((with_reducible refine AD.k_binOp ?_); first | refine AD.q rfl (OQ.gtr rfl rfl) rfl rfl rfl ?_ | refine AD.qc rfl rfl (by with_reducible rfl) (OQ.subi rfl rfl (by omega)) rfl rfl rfl ?_ | refine AD.qc rfl rfl (by with_reducible rfl) (OQ.sub rfl rfl) rfl rfl rfl ?_ | refine AD.qc rfl rfl (by with_reducible rfl) (OQ.eql rfl rfl) rfl rfl rfl ?_) | ((with_reducible refine AD.k_load ?_); first | (refine AD.qc rfl rfl (by with_reducible rfl) (OQ.load1 (ty := 3) rfl (by kernel_rfl) (by conv => lhs; whnf)) rfl rfl rfl ?_)) | ((with_reducible refine AD.k_fieldAddr ?_); first | refine AD.qc rfl rfl (by with_reducible rfl) (OQ.fieldA (ty := 60) (i := 1) (n := 1) (off := 1) (g := false) rfl (by kernel_rfl) (by decide)) rfl rfl rfl ?_ | refine AD.qc rfl rfl (by with_reducible rfl) (OQ.fieldA (ty := 60) (i := 0) (n := 1) (off := 0) (g := false) rfl (by kernel_rfl) (by decide)) rfl rfl rfl ?_) | ((with_reducible refine AD.k_indexAddr ?_); first | refine AD.qc rfl rfl (by with_reducible rfl) (OQ.idxAddr (ty := 55) (z := 2) (g := true) rfl rfl (by kernel_rfl) (by omega) (by omega)) rfl rfl rfl ?_) | ((with_reducible refine AD.k_pick ?_); first | (refine AD.q rfl (OQ.pickT rfl (by with_reducible rfl) (by conv => lhs; whnf)) rfl rfl rfl ?_) | (refine AD.q rfl (OQ.pickF rfl (by with_reducible rfl) (by conv => lhs; whnf)) rfl rfl rfl ?_))); (conv => (arg 10; try tactic => exact nrm)))
      | (refine AD.bs rfl (fun hc => ?_) (fun hc => ?_) <;> (fail_if_success (with_reducible exact lit_no hc)) <;> (try simp only [decide_eq_true_eq, decide_eq_false_iff_not, Bool.not_true, Bool.not_false, Bool.not_eq_true', Bool.not_eq_false', Int.not_lt, Int.not_le, Classical.not_not, ne_eq] at hc) <;> first | (exfalso; first | contradiction | (first | omega | (simp at *; done)); done) | (conv => (arg 10; try tactic => exact nrm)))
      | (refine AD.gs1 rfl rfl (fun hc => ?_) (fun hc => ?_) <;> (fail_if_success (with_reducible exact lit_no hc)) <;> (try simp only [decide_eq_true_eq, decide_eq_false_iff_not, Bool.not_true, Bool.not_false, Bool.not_eq_true', Bool.not_eq_false', Int.not_lt, Int.not_le, Classical.not_not, ne_eq] at hc) <;> first | (exfalso; first | contradiction | (first | omega | (simp at *; done)); done) | (conv => (arg 10; try tactic => exact nrm)))
      | (refine AD.gs0 rfl rfl (fun hc => ?_) (fun hc => ?_) <;> (fail_if_success (with_reducible exact lit_no hc)) <;> (try simp only [decide_eq_true_eq, decide_eq_false_iff_not, Bool.not_true, Bool.not_false, Bool.not_eq_true', Bool.not_eq_false', Int.not_lt, Int.not_le, Classical.not_not, ne_eq] at hc) <;> first | (exfalso; first | contradiction | (first | omega | (simp at *; done)); done) | (conv => (arg 10; try tactic => exact nrm)))
      | (refine AD.nil ?_; (conv => (arg 4; simp only [List.drop_succ_cons, List.drop_zero, List.drop_nil])); (conv => (arg 5; try tactic => exact nrm)); (conv => (arg 6; try tactic => exact nrm))))
    | with_reducible refine AR.s ?_
    | ((with_reducible refine AR.out ?_); first | omega | (simp at *; done); done)
    | ((with_reducible refine FinP.on ?_); (first | refine FinP.ret (.tmp (by conv => lhs; whnf) .nil) ?_ rfl | refine FinP.end (.tmp (by conv => lhs; whnf) .nil) ?_ rfl); (try simp only [pack, List.drop, List.take]); all_goals (rfl)))

/-- Whether two boxes differ. -/
def bxN (p q : Bx) : Bool := !decide ((p.l0, p.h0, p.l1, p.h1, p.l2, p.h2) = (q.l0, q.h0, q.l1, q.h1, q.l2, q.h2))
theorem bxN_comm (p q : Bx) : bxN p q = bxN q p := by
  unfold bxN
  congr 1
  exact decide_eq_decide.2 ⟨fun h => h.symm, fun h => h.symm⟩
section
variable {nm1 nm2 : ByteArray} {bd1 bd2 : Int} {l1 l2 : List St}
abbrev tcM (nm1 nm2 : ByteArray) (bd1 bd2 : Int) (l1 l2 : List St) (z1 z2 : Nat) : Mem := [some ⟨flatS l1, false, z1⟩, some ⟨flatS l2, false, z2⟩, some ⟨[.string nm1, .int .i64 bd1, .slice (some ⟨0, 0, none⟩) l1.length INF], false, 0⟩, some ⟨[.string nm2, .int .i64 bd2, .slice (some ⟨1, 0, none⟩) l2.length INF], false, 0⟩]
theorem ro4 (a b c d : Blk) (ha : a.own = false) (hb : b.own = false) (hc : c.own = false) (hd : d.own = false) : Mem.ro [some a, some b, some c, some d] := fun k blk hk => by
  have := Mem.at_lt hk
  match k, this with
  | 0, _ => simp [Mem.at] at hk; rw [← hk, ha]
  | 1, _ => simp [Mem.at] at hk; rw [← hk, hb]
  | 2, _ => simp [Mem.at] at hk; rw [← hk, hc]
  | 3, _ => simp [Mem.at] at hk; rw [← hk, hd]
  | k + 4, h => exact absurd h (by simp)
theorem TcIs_c (t : Int) (z1 z2 : Nat) (hn1 : nm1.size ≤ 1000) (hn2 : nm2.size ≤ 1000) (hR1 : Right bd1 l1) (hR2 : Right bd2 l2) (h0 : frstT l1 ≤ t ∧ t ≤ lastT l1) (h1 : frstT l2 ≤ t ∧ t ≤ lastT l2) :
    PCalls Tryz.prog 68 [.int .i64 t, .pointer (some ⟨2, 0, none⟩), .pointer (some ⟨3, 0, none⟩)] (tcM nm1 nm2 bd1 bd2 l1 l2 z1 z2) (.bool (bxN (bx bd1 l1 t) (bx bd2 l2 t))) := by
  have H1 := fun (m : Mem) (v : Value) (hS : SlB m v l1) => box_q (nm := nm1) hS (Ors.of_right hn1 hR1) hR1 t h0.1 h0.2
  have H2 := fun (m : Mem) (v : Value) (hS : SlB m v l2) => box_q (nm := nm2) hS (Ors.of_right hn2 hR2) hR2 t h1.1 h1.2
  unfold bxN
  generalize bx bd1 l1 t = p at *
  generalize bx bd2 l2 t = q at *
  obtain ⟨p0, p1, p2, p3, p4, p5⟩ := p
  obtain ⟨q0, q1, q2, q3, q4, q5⟩ := q
  simp only [bxV] at H1 H2 ⊢
  refine PCalls.enter (t := [.int .i64 t, .pointer (some ⟨2, 0, none⟩), .pointer (some ⟨3, 0, none⟩), undef, undef, undef, undef, undef, undef, undef, undef, undef]) Tryz.func68 rfl (ro4 _ _ _ _ rfl rfl rfl rfl) rfl fun E => ?_
  repeat' (first
    | with_reducible refine Then.n ?_
    | with_reducible refine Then.r ?_
    | with_reducible refine Then.x ?_
    | with_reducible refine InB.n ?_
    | with_reducible refine InB.r ?_
    | with_reducible refine InB.hit ?_
    | with_reducible refine InB.miss (by decide) ?_
    | ((with_reducible refine AL.on ?_); first
      | ((first | first | (refine AL.q rfl (OQ.assign (by conv => lhs; whnf)) ?_)); (conv => (arg 5; try tactic => exact nrm)))
      | refine AL.nil ?_)
    | ((with_reducible refine AW.on ?_); first
      | refine AW.seq ?_
      | refine AW.skip ?_
      | refine AW.exit ?_
      | refine AW.ret ?_
      | refine AW.block ?_
      | (refine AW.draw (id := 1) 8 #[0, 0, 3, 0, 0, 31, 63, 127] (by kernel_rfl) (by kernel_rfl) ?_; (conv => (arg 8; simp only [List.take_succ_cons, List.take_zero])))
      | refine AW.region ?_
      | (refine AW.conds rfl (fun hc => ?_) (fun hc => ?_) <;> (try simp only [decide_eq_true_eq, decide_eq_false_iff_not, Bool.not_true, Bool.not_false, Bool.not_eq_true', Bool.not_eq_false', Int.not_lt, Int.not_le, Classical.not_not, ne_eq] at hc) <;> first | (exfalso; first | contradiction | (omega); done) | skip))
    | ((with_reducible refine AD.on ?_); first
      | ((first | ((with_reducible refine AD.k_load ?_); first | refine AD.q rfl (OQ.loadN (ty := 123) (n := 3) rfl (by kernel_rfl) (by kernel_rfl) rfl) rfl rfl rfl ?_) | ((with_reducible refine AD.k_move ?_); first | (refine AD.q rfl (OQ.move (by conv => lhs; whnf)) rfl rfl rfl ?_)) | ((with_reducible refine AD.k_assign ?_); first | (refine AD.q rfl (OQ.assign (by conv => lhs; whnf)) rfl rfl rfl ?_)) | ((with_reducible refine AD.k_binOp ?_); first | refine AD.q rfl (nel_t132 rfl rfl) rfl rfl rfl ?_)); (conv => (arg 10; try tactic => exact nrm)))
      | ((first | first | refine AD.pcall (g := 69) rfl (by kernel_rfl) rfl ((by first | exact H1 _ _ (.blk 0 _ rfl rfl rfl) | exact H2 _ _ (.blk 1 _ rfl rfl rfl))) rfl rfl ?_); (conv => (arg 10; try tactic => exact nrm)))
      | (refine AD.nil ?_; (conv => (arg 4; simp only [List.drop_succ_cons, List.drop_zero, List.drop_nil])); (conv => (arg 5; try tactic => exact nrm)); (conv => (arg 6; try tactic => exact nrm))))
    | ((with_reducible refine FinP.on ?_); (first | refine FinP.ret (.tmp (by conv => lhs; whnf) .nil) ?_ rfl | refine FinP.end (.tmp (by conv => lhs; whnf) .nil) ?_ rfl); (try simp only [pack, List.drop, List.take]); all_goals (rfl)))
abbrev tcD (bd1 bd2 : Int) (l1 l2 : List St) (t : Int) : Bool := bxN (bx bd1 l1 t) (bx bd2 l2 t)
theorem tc_runs (lo hi : Int) (N : Nat) (z1 z2 : Nat) (hn1 : nm1.size ≤ 1000) (hn2 : nm2.size ≤ 1000) (hR1 : Right bd1 l1) (hR2 : Right bd2 l2) (h0 : frstT l1 ≤ lo ∧ hi ≤ lastT l1) (h1 : frstT l2 ≤ lo ∧ hi ≤ lastT l2) (hN : (N : Int) = hi + 1 - lo) :
    ACalls Tryz.prog 67 [.int .i64 lo, .int .i64 hi, .func (.func 68) #[] #[.pointer (some ⟨2, 0, none⟩), .pointer (some ⟨3, 0, none⟩)]] (tcM nm1 nm2 bd1 bd2 l1 l2 z1 z2) (rgV 4 (runTo (tcD bd1 bd2 l1 l2) lo N)) (tcM nm1 nm2 bd1 bd2 l1 l2 z1 z2 ++ [rgB (runTo (tcD bd1 bd2 l1 l2) lo N)]) := by
  obtain ⟨g1, g2, g3⟩ := fl_le hR1
  have g4 : lastT l1 - frstT l1 ≤ 20000 := hR1.arc (l1.length - 1) (by have := hR1.n2; omega)
  refine runs_4 68 (by kernel_rfl) [.pointer (some ⟨2, 0, none⟩), .pointer (some ⟨3, 0, none⟩)] (tcD bd1 bd2 l1 l2) lo hi N _ _ _ _ (by omega) (by omega) hN (by omega)
    (fun js => ⟨rn1_id (flatS_scal l1), ok1_of_scal (flatS_scal l1)⟩) (fun js => ⟨rn1_id (flatS_scal l2), ok1_of_scal (flatS_scal l2)⟩) (fun js => ⟨rfl, rfl⟩) (fun js => ⟨rfl, rfl⟩) (fun js => rfl) rfl (fun k hk rest => ?_)
  refine PCalls.wide (TcIs_c (lo + k) z1 z2 hn1 hn2 hR1 hR2 (by omega) (by omega)) (fun b blk hb => ?_) rfl rfl rfl rfl
  have := Mem.at_lt hb
  match b, this with
  | 0, _ => simp [Mem.at] at hb; subst hb; exact ⟨rfl, ok1_of_scal (flatS_scal l1), _, rfl, rfl, rfl⟩
  | 1, _ => simp [Mem.at] at hb; subst hb; exact ⟨rfl, ok1_of_scal (flatS_scal l2), _, rfl, rfl, rfl⟩
  | 2, _ => simp [Mem.at] at hb; subst hb; exact ⟨rfl, rfl, _, rfl, rfl, rfl⟩
  | 3, _ => simp [Mem.at] at hb; subst hb; exact ⟨rfl, rfl, _, rfl, rfl, rfl⟩
  | b + 4, h => exact absurd h (by simp)
/-- The same in the memory of Touched. -/
theorem tc_runs2 {m : Mem} {b1 b2 : Blk} (lo hi : Int) (N : Nat) (hn1 : nm1.size ≤ 1000) (hn2 : nm2.size ≤ 1000) (hR1 : Right bd1 l1) (hR2 : Right bd2 l2) (h0 : frstT l1 ≤ lo ∧ hi ≤ lastT l1) (h1 : frstT l2 ≤ lo ∧ hi ≤ lastT l2) (hN : (N : Int) = hi + 1 - lo)
    (g1 : m.at 0 = some b1) (c1 : b1.cells = flatS l1) (g2 : m.at 1 = some b2) (c2 : b2.cells = flatS l2) (g4 : m.at 4 = some ⟨[.string nm1, .int .i64 bd1, .slice (some ⟨0, 0, none⟩) l1.length INF], true, 0⟩) (g5 : m.at 5 = some ⟨[.string nm2, .int .i64 bd2, .slice (some ⟨1, 0, none⟩) l2.length INF], true, 0⟩) :
    ACalls Tryz.prog 67 [.int .i64 lo, .int .i64 hi, .func (.func 68) #[] #[.pointer (some ⟨4, 0, none⟩), .pointer (some ⟨5, 0, none⟩)]] m (rgVc INF m.length (runTo (tcD bd1 bd2 l1 l2) lo N)) (m ++ [rgB (runTo (tcD bd1 bd2 l1 l2) lo N)]) := by
  refine ACalls.viaN (fun b => if b < 2 then b else b + 2) (tc_runs lo hi N b1.esz b2.esz hn1 hn2 hR1 hR2 h0 h1 hN) (fun b blk hb => ?_) (fun b hb => ?_) (rgB_scal _) rfl rfl (rgV_rn _ _ _) (rgV_ok _ (Nat.le_refl 5))
  · have := Mem.at_lt hb
    match b, this with
    | 0, _ =>
      simp [Mem.at] at hb
      subst hb
      refine ⟨rfl, ok1_of_scal (flatS_scal l1), _, g1, rfl, fun i v hv => ?_⟩
      rw [rn1_scal (List.all_eq_true.1 (flatS_scal l1) v (List.mem_of_getElem? hv)), c1]
      exact hv
    | 1, _ =>
      simp [Mem.at] at hb
      subst hb
      refine ⟨rfl, ok1_of_scal (flatS_scal l2), _, g2, rfl, fun i v hv => ?_⟩
      rw [rn1_scal (List.all_eq_true.1 (flatS_scal l2) v (List.mem_of_getElem? hv)), c2]
      exact hv
    | 2, _ => simp [Mem.at] at hb; subst hb; exact ⟨rfl, rfl, _, g4, rfl, fun i v hv => by match i, hv with | 0, hv => simp at hv; subst hv; rfl | 1, hv => simp at hv; subst hv; rfl | 2, hv => simp at hv; subst hv; rfl | i + 3, hv => simp at hv⟩
    | 3, _ => simp [Mem.at] at hb; subst hb; exact ⟨rfl, rfl, _, g5, rfl, fun i v hv => by match i, hv with | 0, hv => simp at hv; subst hv; rfl | 1, hv => simp at hv; subst hv; rfl | 2, hv => simp at hv; subst hv; rfl | i + 3, hv => simp at hv⟩
    | b + 4, h => exact absurd h (by simp)
  · match b, hb with
    | 0, _ => exact ⟨_, rfl⟩
    | 1, _ => exact ⟨_, rfl⟩
    | 2, _ => exact ⟨_, rfl⟩
    | 3, _ => exact ⟨_, rfl⟩
    | b + 4, h => exact absurd h (by simp)
end
theorem runs_in (T : Int → Bool) (a : Int) : ∀ k : Nat, ∀ r ∈ runTo T a k, a ≤ r.1 ∧ r.1 < a + k
  | 0, r, h => by simp [runTo] at h
  | k + 1, r, h => by
    have ih := runs_in T a k
    unfold runTo at h
    split at h
    · rw [grow_eq] at h
      rcases List.eq_nil_or_concat (runTo T a k) with e | ⟨L, ⟨x, y⟩, e⟩
      · rw [e, jn1_nil, List.mem_singleton] at h
        subst h
        simp only
        omega
      · rw [List.concat_eq_append] at e
        rw [e] at h ih
        by_cases hy : y = a + k - 1
        · rw [jn1_last L x y _ hy] at h
          rcases List.mem_append.1 h with h | h
          · have := ih r (List.mem_append_left _ h); omega
          · have := ih (x, y) (by simp)
            rw [List.mem_singleton] at h
            subst h
            simp only at this ⊢
            omega
        · rw [jn1_new L x y _ hy] at h
          rcases List.mem_append.1 h with h | h
          · have := ih r h; omega
          · rw [List.mem_singleton] at h
            subst h
            simp only
            omega
    · have := ih r h; omega
theorem run_len (T : Int → Bool) (a : Int) (k : Nat) : (runTo T a k).length ≤ k := by
  have := rf_len [] T a k
  rw [rf_nil] at this
  simpa using this
theorem rgVc_cell (c b : Nat) (L : List (Int × Int)) : isJ (rgVc c b L) = false ∧ (rgVc c b L).cells = #[rgVc c b L] := by
  unfold rgVc
  split <;> exact ⟨rfl, rfl⟩
end Go.Proofs.YthhhkjbhhjcjoaaGreatDoor
end

section
namespace Go.Proofs.YthhhkjbhhjcjoaaGreatDoor
open Go Go.RowKit Go.Ob Go.Ab
set_option maxRecDepth 100000
set_option maxHeartbeats 1000000
/-- The five lists of Touched, and where they lie. -/
def tcQ (A M G F T : List (Int × Int)) (k : Nat) : List (Int × Int) := match k with | 0 => A | 1 => M | 2 => G | 3 => F | _ => T
def tcb (k : Nat) : Nat := match k with | 0 => 9 | 1 => 11 | 2 => 13 | 3 => 10 | _ => 12
def tcp (k : Nat) : Nat := match k with | 2 => INF | _ => 1
theorem first2_z {m : Mem} {b c : Nat} {blk : Blk} (hb : m.at b = some blk) (hc : blk.cells = [.int .i64 0, .int .i64 0]) : PCalls Tryz.prog 63 [.slice (some ⟨b, 0, none⟩) 2 c] m (.int .i64 0) := first2_q 0 0 hb hc
section
variable {nm1 nm2 : ByteArray} {bd1 bd2 : Int} {l1 l2 : List St}
attribute [local irreducible] OQ OW AL AW AD AF SW rgV rgVc rgB
/-- Two right orbits with ticks in common. -/
theorem Touched_y (z1 z2 : Nat) (hn1 : nm1.size ≤ 1000) (hn2 : nm2.size ≤ 1000) (hR1 : Right bd1 l1) (hR2 : Right bd2 l2) (he1 : (orbE nm1.data.toList bd1 l1).2 = 0) (he2 : (orbE nm2.data.toList bd2 l2).2 = 0)
    (hbr : lastT l1 - frstT l1 ≤ 300) (hco : frstT l1 ≤ lastT l2 ∧ frstT l2 ≤ lastT l1) (hne : tchL (frstT l1) (lastT l1) (frstT l2) (lastT l2) (tcD bd1 bd2 l1 l2) ≠ []) :
    ACalls Tryz.prog 24 [obI nm1 bd1 0 l1, obI nm2 bd2 1 l2] (two l1 l2 z1 z2) (.tuple #[rgV 2 (tchL (frstT l1) (lastT l1) (frstT l2) (lastT l2) (tcD bd1 bd2 l1 l2)), .int .i64 0])
      [some ⟨flatS l1, false, z1⟩, some ⟨flatS l2, false, z2⟩, rgB (tchL (frstT l1) (lastT l1) (frstT l2) (lastT l2) (tcD bd1 bd2 l1 l2))] := by
  have ho1 := Ors.of_right hn1 hR1
  have ho2 := Ors.of_right hn2 hR2
  have HP1 := fun (m : Mem) (v : Value) (hS : SlB m v l1) => pathOf_q (bd := bd1) hS ho1
  have HP2 := fun (m : Mem) (v : Value) (hS : SlB m v l2) => pathOf_q (bd := bd2) hS ho2
  rw [he1] at HP1
  rw [he2] at HP2
  have HT1 := fun (m : Mem) (v : Value) (hS : SlB m v l1) => ticks_t (bd := bd1) hS ho1 hR1
  have HT2 := fun (m : Mem) (v : Value) (hS : SlB m v l2) => ticks_t (bd := bd2) hS ho2 hR2
  obtain ⟨a1, a2, a3⟩ := fl_le hR1
  obtain ⟨b1, b2, b3⟩ := fl_le hR2
  obtain ⟨lo, hlo⟩ : ∃ lo, lo = if frstT l1 < frstT l2 then frstT l2 else frstT l1 := ⟨_, rfl⟩
  obtain ⟨hi, hhi⟩ : ∃ hi, hi = if lastT l2 < lastT l1 then lastT l2 else lastT l1 := ⟨_, rfl⟩
  have hlr : frstT l1 ≤ lo ∧ frstT l2 ≤ lo ∧ lo ≤ 1000000000 ∧ hi ≤ lastT l1 ∧ hi ≤ lastT l2 ∧ lo ≤ hi := by
    rw [hlo, hhi]
    split <;> split <;> omega
  have HA1 := fun (m : Mem) (blk : Blk) (g1 : m.at 0 = some blk) (g2 : blk.cells = flatS l1) => alone_q nm1 bd1 lo hi g1 g2 hn1 hR1 (by omega) (by omega)
  have HA2 := fun (m : Mem) (blk : Blk) (g1 : m.at 1 = some blk) (g2 : blk.cells = flatS l2) => alone_q nm2 bd2 lo hi g1 g2 hn2 hR2 (by omega) (by omega)
  have HR := fun (m : Mem) (b1 b2 : Blk) (g1 : m.at 0 = some b1) (c1 : b1.cells = flatS l1) (g2 : m.at 1 = some b2) (c2 : b2.cells = flatS l2) => tc_runs2 (m := m) lo hi (hi + 1 - lo).toNat hn1 hn2 hR1 hR2 (by omega) (by omega) (by omega) g1 c1 g2 c2
  have hT := touch_some (D := tcD bd1 bd2 l1 l2) hlo hhi hlr.2.2.2.2.2
  have hGi := runs_in (tcD bd1 bd2 l1 l2) lo (hi + 1 - lo).toNat
  have hGl := run_len (tcD bd1 bd2 l1 l2) lo (hi + 1 - lo).toNat
  rw [← hT] at hne ⊢
  clear hT he1 he2
  generalize tcD bd1 bd2 l1 l2 = dd at *
  generalize runTo dd lo (hi + 1 - lo).toNat = qc at *
  generalize frstT l1 = x0 at *
  generalize lastT l1 = x1 at *
  generalize frstT l2 = y0 at *
  generalize lastT l2 = y1 at *
  have hbI : ∀ x0 x1 : Int, 0 ≤ x0 → x0 ≤ 1000000000 → (befR x0 x1 lo).length ≤ 1000 ∧ ∀ r ∈ befR x0 x1 lo, -1000000000000 ≤ r.1 ∧ r.1 ≤ 1000000000000 := fun x0 x1 h h' => by
    have := befR_in x0 x1 lo
    exact ⟨by omega, fun r hr => by rw [this.2 r hr]; omega⟩
  have haI : ∀ x0 x1 : Int, 0 ≤ x0 → x0 ≤ 1000000000 → (aftR x0 x1 hi).length ≤ 1000 ∧ ∀ r ∈ aftR x0 x1 hi, -1000000000000 ≤ r.1 ∧ r.1 ≤ 1000000000000 := fun x0 x1 h h' => by
    have := aftR_in x0 x1 hi
    exact ⟨by omega, fun r hr => by rw [this.2 r hr]; split <;> omega⟩
  have hb1 := hbI x0 x1 (by omega) (by omega)
  have hb2 := hbI y0 y1 (by omega) (by omega)
  have ha1 := haI x0 x1 (by omega) (by omega)
  have ha2 := haI y0 y1 (by omega) (by omega)
  clear hbI haI
  generalize befR x0 x1 lo = qa at *
  generalize befR y0 y1 lo = qb at *
  generalize aftR x0 x1 hi = qd at *
  generalize aftR y0 y1 hi = qe at *
  have hcat : catR (tcQ qa qb qc qd qe) 5 = qa ++ qb ++ qc ++ qd ++ qe := rfl
  have hlq : ∀ k, k < 5 → (tcQ qa qb qc qd qe k).length ≤ 1000 := fun k hk => match k, hk with
    | 0, _ => hb1.1
    | 1, _ => hb2.1
    | 2, _ => (by show qc.length ≤ 1000; omega)
    | 3, _ => ha1.1
    | 4, _ => ha2.1
  have hLne : qa ++ qb ++ qc ++ qd ++ qe ≠ [] := fun h => hne (by rw [h]; rfl)
  have hLl : (qa ++ qb ++ qc ++ qd ++ qe).length ≤ 5000 := by
    simp only [List.length_append]
    omega
  have hLb : ∀ r ∈ qa ++ qb ++ qc ++ qd ++ qe, -1000000000000 ≤ r.1 ∧ r.1 ≤ 1000000000000 := fun r hr => by
    simp only [List.mem_append] at hr
    rcases hr with (((h | h) | h) | h) | h
    · exact hb1.2 r h
    · exact hb2.2 r h
    · have := hGi r h; omega
    · exact ha1.2 r h
    · exact ha2.2 r h
  rw [← hcat] at hLne hLl hLb hne ⊢
  have hJ := fun (m : Mem) (b : Nat) (h : m.at b = rgB (catR (tcQ qa qb qc qd qe) 5)) => joined_q h hLne hLl hLb
  have hC := fun (m : Mem) (i : Nat) (B : Blk) (h1 : m.at i = some B) (h2 : B.cells = [rgVc 1 9 qa, rgVc 1 11 qb, rgVc INF 13 qc, rgVc 1 10 qd, rgVc 1 12 qe]) (h3 : m.at 9 = rgB qa) (h4 : m.at 11 = rgB qb) (h5 : m.at 13 = rgB qc) (h6 : m.at 10 = rgB qd) (h7 : m.at 12 = rgB qe) => Concat_q (c := 5) (b := tcb) (cp := tcp) (tcQ qa qb qc qd qe) h1 h2 (fun k hk => match k, hk with | 0, _ => h3 | 1, _ => h4 | 2, _ => h5 | 3, _ => h6 | 4, _ => h7) hlq hLne
  generalize catR (tcQ qa qb qc qd qe) 5 = qk at *
  generalize qk.foldl jn1 [] = qj at *
  have hsc := fun b h => (rgB_scal qj b h).2
  have hrn := rgV_rn2 (kσ 2 [16]) 2 qj
  have hok := rgV_ok2 (n := 3) (b := 2) qj (by decide)
  refine ACalls.enter (t := [obI nm1 bd1 0 l1, obI nm2 bd2 1 l2, undef, undef, undef, undef, undef, undef, undef, undef, undef, undef, undef, undef, undef, undef, undef, undef, undef, undef, undef, undef, undef, undef, undef, undef, undef, undef, undef, undef, undef, undef, undef, undef, undef, undef, undef, undef, undef, undef, undef, undef, undef, undef, undef, undef, undef, undef, undef, undef, undef, undef, undef, undef, undef, undef, undef, undef, undef, undef, undef, undef, undef, undef, undef, undef, undef, undef, undef, undef, undef, undef, undef, undef, undef, undef, undef, undef, undef, undef, undef, undef, undef, undef, undef, undef, undef, undef, undef, undef, undef, undef, undef, undef, undef, undef]) Tryz.func24 rfl rfl fun E hE => ?_
  repeat' (first
    | with_reducible refine Then.n ?_
    | with_reducible refine Then.r ?_
    | with_reducible refine Then.x ?_
    | with_reducible refine InB.n ?_
    | with_reducible refine InB.r ?_
    | with_reducible refine InB.hit ?_
    | with_reducible refine InB.miss (by decide) ?_
    | ((with_reducible refine AL.on ?_); first
      | ((first | ((with_reducible refine AL.k_move ?_); first | (refine AL.q rfl (OQ.move (by conv => lhs; whnf)) ?_)) | ((with_reducible refine AL.k_assign ?_); first | (refine AL.q rfl (OQ.assign (by conv => lhs; whnf)) ?_)) | ((with_reducible refine AL.k_load ?_); first | refine AL.q rfl (OQ.loadN (ty := 37) (n := 3) rfl (by kernel_rfl) (by kernel_rfl) rfl) ?_ | refine AL.q rfl (OQ.loadN (ty := 60) (n := 2) rfl (by kernel_rfl) (by kernel_rfl) rfl) ?_ | (refine AL.q rfl (OQ.load1 (ty := 3) rfl (by kernel_rfl) (by conv => lhs; whnf)) ?_) | refine AL.q rfl (OQ.loadN (ty := 123) (n := 3) rfl (by kernel_rfl) (by kernel_rfl) rfl) ?_) | ((with_reducible refine AL.k_extract ?_); first | refine AL.q rfl (OQ.extract rfl rfl) ?_) | ((with_reducible refine AL.k_fieldAddr ?_); first | refine AL.q rfl (OQ.fieldA (ty := 60) (i := 0) (n := 1) (off := 0) (g := false) rfl (by kernel_rfl) (by decide)) ?_) | ((with_reducible refine AL.k_binOp ?_); first | refine AL.q rfl (OQ.neq rfl rfl) ?_ | refine AL.q rfl (OQ.gtr rfl rfl) ?_ | refine AL.q rfl (OQ.lss rfl rfl) ?_) | ((with_reducible refine AL.k_indexAddr ?_); first | refine AL.q rfl (OQ.idxAddr (ty := 55) (z := 2) (g := true) rfl rfl (by kernel_rfl) (by omega) (by omega)) ?_)); (conv => (arg 5; try tactic => exact nrm)))
      | ((first | ((with_reducible refine AL.k_call ?_); first | refine AL.pcall (g := 62) rfl (by kernel_rfl) rfl ((by first | exact HP1 _ _ (.blk 0 _ rfl rfl rfl) | exact HP2 _ _ (.blk 1 _ rfl rfl rfl))) ?_ | refine AL.pcall (g := 63) rfl (by kernel_rfl) rfl (first2_z rfl rfl) ?_) | refine AL.q rfl OQ.mkfn ?_); (conv => (arg 5; try tactic => exact nrm)))
      | ((first | ((with_reducible refine AL.k_call ?_); first | refine AL.acall (g := 65) rfl (by kernel_rfl) rfl ((by exact hJ _ _ rfl)) ?_ | refine AL.acall (g := 66) rfl (by kernel_rfl) rfl ((by first | exact HA1 _ _ rfl rfl | exact HA2 _ _ rfl rfl)) ?_ | refine AL.acall (g := 67) rfl (by kernel_rfl) rfl ((by exact HR _ _ _ rfl rfl rfl rfl rfl rfl)) ?_ | refine AL.acall (g := 70) rfl (by kernel_rfl) rfl ((by exact hC _ _ _ rfl rfl rfl rfl rfl rfl rfl)) ?_) | ((with_reducible refine AL.k_store ?_); first | (refine AL.w rfl (OW.store (ty := 123) (n := 3) rfl (by conv => lhs; whnf) rfl rfl (by kernel_rfl) rfl rfl (by decide) rfl (Nat.le_of_ble_eq_true rfl) (by intro r h; cases h)) ?_) | (refine AL.w rfl (OW.store (ty := 60) (n := 2) rfl (by conv => lhs; whnf) rfl rfl (by kernel_rfl) rfl rfl (by decide) rfl (Nat.le_of_ble_eq_true rfl) (by intro r h; cases h)) ?_)) | ((with_reducible refine AL.k_alloc ?_); first | refine AL.w rfl (OW.alloc (ty := 123) (z := [.string ⟨#[]⟩, .int .i64 0, .slice none 0 0]) (by kernel_rfl) rfl) ?_) | ((with_reducible refine AL.k_buildSlice ?_); first | refine AL.w rfl (OW.buildSl (ty := 163) (zs := [.int .i64 0]) (n := 1) (g := false) (by kernel_rfl) (by kernel_rfl) rfl rfl rfl (by decide) (by decide) rfl rfl) ?_ | refine AL.w rfl (OW.buildSl (ty := 55) (zs := [.int .i64 0, .int .i64 0]) (n := 2) (g := true) (by kernel_rfl) (by kernel_rfl) rfl rfl rfl (by decide) (by decide) rfl rfl) ?_ | refine AL.w rfl (OW.build5 (z := .slice none 0 0) (g := false) (by kernel_rfl) (by kernel_rfl) rfl rfl (rgVc_cell _ _ _) (rgVc_cell _ _ _) (rgVc_cell _ _ _) (rgVc_cell _ _ _) (rgVc_cell _ _ _)) ?_) | ((with_reducible refine AL.k_box ?_); first | (refine AL.w rfl (OW.box (by conv => lhs; whnf) (by intro r h; cases h)) ?_))); (conv => (arg 5; try tactic => exact nrm)); (conv => (arg 6; try tactic => exact nrm)))
      | refine AL.nil ?_)
    | ((with_reducible refine AW.on ?_); first
      | refine AW.seq ?_
      | refine AW.skip ?_
      | refine AW.exit ?_
      | refine AW.ret ?_
      | refine AW.block ?_
      | (refine AW.draw (id := 6) 8 #[0, 1, 0, 7, 0, 0, 63, 127] (by kernel_rfl) (by kernel_rfl) ?_; (conv => (arg 8; simp only [List.take_succ_cons, List.take_zero])))
      | (refine AW.draw (id := 7) 12 #[0, 1, 0, 4, 15, 0, 32, 0, 128, 480, 31, 2047] (by kernel_rfl) (by kernel_rfl) ?_; (conv => (arg 8; simp only [List.take_succ_cons, List.take_zero])))
      | (refine AW.drawF (id := 11) 6 #[0, 0, 0, 0, 5, 21, 63, 127] (by kernel_rfl) (by kernel_rfl) ?_; (conv => (arg 8; simp only [List.take_succ_cons, List.take_zero])))
      | (refine AW.region (id := 5) ?_; exfalso; omega; done)
      | (refine AW.region (id := 8) ?_; ((try simp only [gt_iff_lt, ← hlo, ← hhi])))
      | (refine AW.region (id := 9) ?_; exfalso; omega; done)
      | refine AW.region ?_
      | (refine AW.conds rfl (fun hc => ?_) (fun hc => ?_) <;> (try simp only [decide_eq_true_eq, decide_eq_false_iff_not, Bool.not_true, Bool.not_false, Bool.not_eq_true', Bool.not_eq_false', Int.not_lt, Int.not_le, Classical.not_not, ne_eq] at hc) <;> first | (exfalso; first | contradiction | (omega); done) | skip))
    | ((with_reducible refine AD.on ?_); first
      | ((first | ((with_reducible refine AD.k_assign ?_); first | (refine AD.q rfl (OQ.assign (by conv => lhs; whnf)) rfl rfl rfl ?_)) | ((with_reducible refine AD.k_load ?_); first | refine AD.q rfl (OQ.loadN (ty := 123) (n := 3) rfl (by kernel_rfl) (by kernel_rfl) rfl) rfl rfl rfl ?_ | (refine AD.q rfl (OQ.load1 (ty := 3) rfl (by kernel_rfl) (by conv => lhs; whnf)) rfl rfl rfl ?_)) | ((with_reducible refine AD.k_call ?_); first | refine AD.q rfl (OQ.max2 rfl rfl) rfl rfl rfl ?_ | refine AD.q rfl (OQ.min2 rfl rfl) rfl rfl rfl ?_) | ((with_reducible refine AD.k_fieldAddr ?_); first | refine AD.q rfl (OQ.fieldA (ty := 60) (i := 0) (n := 1) (off := 0) (g := false) rfl (by kernel_rfl) (by decide)) rfl rfl rfl ?_ | refine AD.q rfl (OQ.fieldA (ty := 60) (i := 1) (n := 1) (off := 1) (g := false) rfl (by kernel_rfl) (by decide)) rfl rfl rfl ?_)); (conv => (arg 10; try tactic => exact nrm)))
      | ((first | first | refine AD.pcall (g := 64) rfl (by kernel_rfl) rfl ((by first | exact HT1 _ _ (.blk 0 _ rfl rfl rfl) | exact HT2 _ _ (.blk 1 _ rfl rfl rfl))) rfl rfl ?_); (conv => (arg 10; try tactic => exact nrm)))
      | ((first | ((with_reducible refine AD.k_store ?_); first | (refine AD.init (ty := 60) (p := 0) rfl rfl rfl rfl rfl rfl (by kernel_rfl) (by conv => lhs; whnf) rfl (by kernel_rfl) rfl rfl rfl (by intro r h; cases h) ?_) | (refine AD.init (ty := 60) (p := 1) rfl rfl rfl rfl rfl rfl (by kernel_rfl) (by conv => lhs; whnf) rfl (by kernel_rfl) rfl rfl rfl (by intro r h; cases h) ?_)) | ((with_reducible refine AD.k_alloc ?_); first | refine AD.new (ty := 60) (z := [.int .i64 0, .int .i64 0]) rfl rfl rfl (by kernel_rfl) rfl (Nat.lt_of_lt_of_le (Nat.lt_succ_self _) (Nat.le_of_ble_eq_true rfl)) rfl ?_)); (conv => (arg 10; try tactic => exact nrm)); (conv => (arg 9; try dsimp only [Nat.reduceAdd])); (conv => (arg 11; try tactic => exact nrm)))
      | (refine AD.nil ?_; (conv => (arg 4; simp only [List.drop_succ_cons, List.drop_zero, List.drop_nil])); (conv => (arg 5; try tactic => exact nrm)); (conv => (arg 6; try tactic => exact nrm))))
    | ((with_reducible refine AF.on ?_); first
      | ((first | ((with_reducible refine AF.k_move ?_); first | (refine AF.q 0 (SW.q (OQ.move (by conv => lhs; whnf)) rfl) ?_)) | ((with_reducible refine AF.k_load ?_); first | refine AF.ql rfl (SW.q (OQ.loadN (ty := 60) (n := 2) rfl (by kernel_rfl) (by kernel_rfl) rfl) rfl) ?_) | ((with_reducible refine AF.k_indexAddr ?_); first | refine AF.q 0 (SW.q (OQ.idxAddr (ty := 55) (z := 2) (g := true) rfl rfl (by kernel_rfl) (by omega) (by omega)) rfl) ?_)); (conv => (arg 9; try tactic => exact nrmF)); (conv => (arg 11; try simp only [List.nil_append, List.cons_append])))
      | ((first | first | (refine AF.sl rfl (SW.w (OW.store (ty := 60) (n := 2) rfl (by conv => lhs; whnf) rfl rfl (by kernel_rfl) rfl rfl (by decide) rfl (Nat.le_of_ble_eq_true rfl) (by intro r h; cases h)) rfl) rfl ?_)); (conv => (arg 9; try tactic => exact nrmF)); (conv => (arg 11; try simp only [List.nil_append, List.cons_append])); (conv => (arg 10; try tactic => exact nrmF)))
      | (refine AF.nil ?_ (by kernel_rfl); (conv => (arg 4; simp only [List.drop_succ_cons, List.drop_zero, List.drop_nil]))))
    | ((with_reducible refine FinA.on ?_); (refine FinA.keep 2 [16] (.inl rfl) (.tmp (by conv => lhs; whnf) (.tmp (by conv => lhs; whnf) .nil)) ?_ (by show (ok2 3 (rgV 2 qj) && (true && true)) = true; rw [hok]; rfl) (Nat.le_of_eq hE) rfl rfl ⟨⟨_, rfl, rfl, rfl, .inl ⟨rfl, flatS_scal l1⟩⟩, ⟨_, rfl, rfl, rfl, .inl ⟨rfl, flatS_scal l2⟩⟩, memRen_opt rfl hsc trivial⟩; (show Value.tuple #[rn2 (kσ 2 [16]) (rgV 2 qj), .int .i64 0] = _); rw [hrn]; rfl)))

theorem tch_empty {x0 x1 y0 y1 : Int} {dd : Int → Bool} {lo hi : Int} (hlo : lo = if x0 < y0 then y0 else x0) (hhi : hi = if y1 < x1 then y1 else x1) (h : lo ≤ hi) (he : tchL x0 x1 y0 y1 dd = []) :
    befR x0 x1 lo = [] ∧ befR y0 y1 lo = [] ∧ runTo dd lo (hi + 1 - lo).toNat = [] ∧ aftR x0 x1 hi = [] ∧ aftR y0 y1 hi = [] := by
  rw [← touch_some hlo hhi h] at he
  have : befR x0 x1 lo ++ befR y0 y1 lo ++ runTo dd lo (hi + 1 - lo).toNat ++ aftR x0 x1 hi ++ aftR y0 y1 hi = [] := by
    rcases List.eq_nil_or_concat (befR x0 x1 lo ++ befR y0 y1 lo ++ runTo dd lo (hi + 1 - lo).toNat ++ aftR x0 x1 hi ++ aftR y0 y1 hi) with e | ⟨L, r, e⟩
    · exact e
    · exact absurd he (jn_ne (by rw [e]; simp))
  simp only [List.append_eq_nil_iff] at this
  exact ⟨this.1.1.1.1, this.1.1.1.2, this.1.1.2, this.1.2, this.2⟩
/-- Two right orbits that nowhere differ. -/
theorem Touched_0 (z1 z2 : Nat) (hn1 : nm1.size ≤ 1000) (hn2 : nm2.size ≤ 1000) (hR1 : Right bd1 l1) (hR2 : Right bd2 l2) (he1 : (orbE nm1.data.toList bd1 l1).2 = 0) (he2 : (orbE nm2.data.toList bd2 l2).2 = 0)
    (hco : frstT l1 ≤ lastT l2 ∧ frstT l2 ≤ lastT l1) (hno : tchL (frstT l1) (lastT l1) (frstT l2) (lastT l2) (tcD bd1 bd2 l1 l2) = []) :
    PCalls Tryz.prog 24 [obI nm1 bd1 0 l1, obI nm2 bd2 1 l2] (two l1 l2 z1 z2) (.tuple #[.slice none 0 0, .int .i64 0]) := by
  have ho1 := Ors.of_right hn1 hR1
  have ho2 := Ors.of_right hn2 hR2
  have HP1 := fun (m : Mem) (v : Value) (hS : SlB m v l1) => pathOf_q (bd := bd1) hS ho1
  have HP2 := fun (m : Mem) (v : Value) (hS : SlB m v l2) => pathOf_q (bd := bd2) hS ho2
  rw [he1] at HP1
  rw [he2] at HP2
  have HT1 := fun (m : Mem) (v : Value) (hS : SlB m v l1) => ticks_t (bd := bd1) hS ho1 hR1
  have HT2 := fun (m : Mem) (v : Value) (hS : SlB m v l2) => ticks_t (bd := bd2) hS ho2 hR2
  obtain ⟨a1, a2, a3⟩ := fl_le hR1
  obtain ⟨b1, b2, b3⟩ := fl_le hR2
  obtain ⟨lo, hlo⟩ : ∃ lo, lo = if frstT l1 < frstT l2 then frstT l2 else frstT l1 := ⟨_, rfl⟩
  obtain ⟨hi, hhi⟩ : ∃ hi, hi = if lastT l2 < lastT l1 then lastT l2 else lastT l1 := ⟨_, rfl⟩
  have hlr : frstT l1 ≤ lo ∧ frstT l2 ≤ lo ∧ lo ≤ 1000000000 ∧ hi ≤ lastT l1 ∧ hi ≤ lastT l2 ∧ lo ≤ hi := by
    rw [hlo, hhi]
    split <;> split <;> omega
  have HA1 := fun (m : Mem) (blk : Blk) (g1 : m.at 0 = some blk) (g2 : blk.cells = flatS l1) => alone_q nm1 bd1 lo hi g1 g2 hn1 hR1 (by omega) (by omega)
  have HA2 := fun (m : Mem) (blk : Blk) (g1 : m.at 1 = some blk) (g2 : blk.cells = flatS l2) => alone_q nm2 bd2 lo hi g1 g2 hn2 hR2 (by omega) (by omega)
  have HR := fun (m : Mem) (b1 b2 : Blk) (g1 : m.at 0 = some b1) (c1 : b1.cells = flatS l1) (g2 : m.at 1 = some b2) (c2 : b2.cells = flatS l2) => tc_runs2 (m := m) lo hi (hi + 1 - lo).toNat hn1 hn2 hR1 hR2 (by omega) (by omega) (by omega) g1 c1 g2 c2
  obtain ⟨e1, e2, e3, e4, e5⟩ := tch_empty hlo hhi hlr.2.2.2.2.2 hno
  simp only [e1, e4, rgVc_nil, rgB_nil] at HA1
  simp only [e2, e5, rgVc_nil, rgB_nil] at HA2
  simp only [e3, rgVc_nil, rgB_nil] at HR
  clear he1 he2 hno e1 e2 e3 e4 e5
  generalize frstT l1 = x0 at *
  generalize lastT l1 = x1 at *
  generalize frstT l2 = y0 at *
  generalize lastT l2 = y1 at *
  refine PCalls.enter (t := [obI nm1 bd1 0 l1, obI nm2 bd2 1 l2, undef, undef, undef, undef, undef, undef, undef, undef, undef, undef, undef, undef, undef, undef, undef, undef, undef, undef, undef, undef, undef, undef, undef, undef, undef, undef, undef, undef, undef, undef, undef, undef, undef, undef, undef, undef, undef, undef, undef, undef, undef, undef, undef, undef, undef, undef, undef, undef, undef, undef, undef, undef, undef, undef, undef, undef, undef, undef, undef, undef, undef, undef, undef, undef, undef, undef, undef, undef, undef, undef, undef, undef, undef, undef, undef, undef, undef, undef, undef, undef, undef, undef, undef, undef, undef, undef, undef, undef, undef, undef, undef, undef, undef, undef]) Tryz.func24 rfl (ro2 _ _ rfl rfl) rfl fun E => ?_
  repeat' (first
    | with_reducible refine Then.n ?_
    | with_reducible refine Then.r ?_
    | with_reducible refine Then.x ?_
    | with_reducible refine InB.n ?_
    | with_reducible refine InB.r ?_
    | with_reducible refine InB.hit ?_
    | with_reducible refine InB.miss (by decide) ?_
    | ((with_reducible refine AL.on ?_); first
      | ((first | ((with_reducible refine AL.k_move ?_); first | (refine AL.q rfl (OQ.move (by conv => lhs; whnf)) ?_)) | ((with_reducible refine AL.k_assign ?_); first | (refine AL.q rfl (OQ.assign (by conv => lhs; whnf)) ?_)) | ((with_reducible refine AL.k_load ?_); first | refine AL.q rfl (OQ.loadN (ty := 37) (n := 3) rfl (by kernel_rfl) (by kernel_rfl) rfl) ?_ | refine AL.q rfl (OQ.loadN (ty := 60) (n := 2) rfl (by kernel_rfl) (by kernel_rfl) rfl) ?_ | (refine AL.q rfl (OQ.load1 (ty := 3) rfl (by kernel_rfl) (by conv => lhs; whnf)) ?_) | refine AL.q rfl (OQ.loadN (ty := 123) (n := 3) rfl (by kernel_rfl) (by kernel_rfl) rfl) ?_) | ((with_reducible refine AL.k_extract ?_); first | refine AL.q rfl (OQ.extract rfl rfl) ?_) | ((with_reducible refine AL.k_fieldAddr ?_); first | refine AL.q rfl (OQ.fieldA (ty := 60) (i := 0) (n := 1) (off := 0) (g := false) rfl (by kernel_rfl) (by decide)) ?_) | ((with_reducible refine AL.k_binOp ?_); first | refine AL.q rfl (OQ.neq rfl rfl) ?_ | refine AL.q rfl (OQ.gtr rfl rfl) ?_ | refine AL.q rfl (OQ.lss rfl rfl) ?_) | ((with_reducible refine AL.k_indexAddr ?_); first | refine AL.q rfl (OQ.idxAddr (ty := 55) (z := 2) (g := true) rfl rfl (by kernel_rfl) (by omega) (by omega)) ?_)); (conv => (arg 5; try tactic => exact nrm)))
      | ((first | ((with_reducible refine AL.k_call ?_); first | refine AL.pcall (g := 62) rfl (by kernel_rfl) rfl ((by first | exact HP1 _ _ (.blk 0 _ rfl rfl rfl) | exact HP2 _ _ (.blk 1 _ rfl rfl rfl))) ?_ | refine AL.pcall (g := 63) rfl (by kernel_rfl) rfl (first2_z rfl rfl) ?_ | refine AL.pcall (g := 65) rfl (by kernel_rfl) rfl (joined_nil _) ?_ | refine AL.pcall (g := 70) rfl (by kernel_rfl) rfl ((by exact Concat_0 rfl rfl)) ?_) | refine AL.q rfl OQ.mkfn ?_); (conv => (arg 5; try tactic => exact nrm)))
      | ((first | ((with_reducible refine AL.k_call ?_); first | refine AL.acall (g := 66) rfl (by kernel_rfl) rfl ((by first | exact HA1 _ _ rfl rfl | exact HA2 _ _ rfl rfl)) ?_ | refine AL.acall (g := 67) rfl (by kernel_rfl) rfl ((by exact HR _ _ _ rfl rfl rfl rfl rfl rfl)) ?_) | ((with_reducible refine AL.k_store ?_); first | (refine AL.w rfl (OW.store (ty := 123) (n := 3) rfl (by conv => lhs; whnf) rfl rfl (by kernel_rfl) rfl rfl (by decide) rfl (Nat.le_of_ble_eq_true rfl) (by intro r h; cases h)) ?_) | (refine AL.w rfl (OW.store (ty := 60) (n := 2) rfl (by conv => lhs; whnf) rfl rfl (by kernel_rfl) rfl rfl (by decide) rfl (Nat.le_of_ble_eq_true rfl) (by intro r h; cases h)) ?_)) | ((with_reducible refine AL.k_alloc ?_); first | refine AL.w rfl (OW.alloc (ty := 123) (z := [.string ⟨#[]⟩, .int .i64 0, .slice none 0 0]) (by kernel_rfl) rfl) ?_) | ((with_reducible refine AL.k_buildSlice ?_); first | refine AL.w rfl (OW.buildSl (ty := 163) (zs := [.int .i64 0]) (n := 1) (g := false) (by kernel_rfl) (by kernel_rfl) rfl rfl rfl (by decide) (by decide) rfl rfl) ?_ | refine AL.w rfl (OW.buildSl (ty := 55) (zs := [.int .i64 0, .int .i64 0]) (n := 2) (g := true) (by kernel_rfl) (by kernel_rfl) rfl rfl rfl (by decide) (by decide) rfl rfl) ?_ | refine AL.w rfl (OW.buildSl (ty := 168) (zs := [.slice none 0 0]) (n := 1) (g := false) (by kernel_rfl) (by kernel_rfl) rfl rfl rfl (by decide) (by decide) rfl rfl) ?_) | ((with_reducible refine AL.k_box ?_); first | (refine AL.w rfl (OW.box (by conv => lhs; whnf) (by intro r h; cases h)) ?_))); (conv => (arg 5; try tactic => exact nrm)); (conv => (arg 6; try tactic => exact nrm)))
      | refine AL.nil ?_)
    | ((with_reducible refine AW.on ?_); first
      | refine AW.seq ?_
      | refine AW.skip ?_
      | refine AW.exit ?_
      | refine AW.ret ?_
      | refine AW.block ?_
      | (refine AW.draw (id := 6) 8 #[0, 1, 0, 7, 0, 0, 63, 127] (by kernel_rfl) (by kernel_rfl) ?_; (conv => (arg 8; simp only [List.take_succ_cons, List.take_zero])))
      | (refine AW.draw (id := 7) 12 #[0, 1, 0, 4, 15, 0, 32, 0, 128, 480, 31, 2047] (by kernel_rfl) (by kernel_rfl) ?_; (conv => (arg 8; simp only [List.take_succ_cons, List.take_zero])))
      | (refine AW.drawF (id := 11) 6 #[0, 0, 0, 0, 5, 21, 63, 127] (by kernel_rfl) (by kernel_rfl) ?_; (conv => (arg 8; simp only [List.take_succ_cons, List.take_zero])))
      | (refine AW.region (id := 5) ?_; exfalso; omega; done)
      | (refine AW.region (id := 8) ?_; ((try simp only [gt_iff_lt, ← hlo, ← hhi])))
      | (refine AW.region (id := 9) ?_; exfalso; omega; done)
      | refine AW.region ?_
      | (refine AW.conds rfl (fun hc => ?_) (fun hc => ?_) <;> (try simp only [decide_eq_true_eq, decide_eq_false_iff_not, Bool.not_true, Bool.not_false, Bool.not_eq_true', Bool.not_eq_false', Int.not_lt, Int.not_le, Classical.not_not, ne_eq] at hc) <;> first | (exfalso; first | contradiction | (omega); done) | skip))
    | ((with_reducible refine AD.on ?_); first
      | ((first | ((with_reducible refine AD.k_assign ?_); first | (refine AD.q rfl (OQ.assign (by conv => lhs; whnf)) rfl rfl rfl ?_)) | ((with_reducible refine AD.k_load ?_); first | refine AD.q rfl (OQ.loadN (ty := 123) (n := 3) rfl (by kernel_rfl) (by kernel_rfl) rfl) rfl rfl rfl ?_ | (refine AD.q rfl (OQ.load1 (ty := 3) rfl (by kernel_rfl) (by conv => lhs; whnf)) rfl rfl rfl ?_)) | ((with_reducible refine AD.k_call ?_); first | refine AD.q rfl (OQ.max2 rfl rfl) rfl rfl rfl ?_ | refine AD.q rfl (OQ.min2 rfl rfl) rfl rfl rfl ?_) | ((with_reducible refine AD.k_fieldAddr ?_); first | refine AD.q rfl (OQ.fieldA (ty := 60) (i := 0) (n := 1) (off := 0) (g := false) rfl (by kernel_rfl) (by decide)) rfl rfl rfl ?_ | refine AD.q rfl (OQ.fieldA (ty := 60) (i := 1) (n := 1) (off := 1) (g := false) rfl (by kernel_rfl) (by decide)) rfl rfl rfl ?_)); (conv => (arg 10; try tactic => exact nrm)))
      | ((first | first | refine AD.pcall (g := 64) rfl (by kernel_rfl) rfl ((by first | exact HT1 _ _ (.blk 0 _ rfl rfl rfl) | exact HT2 _ _ (.blk 1 _ rfl rfl rfl))) rfl rfl ?_); (conv => (arg 10; try tactic => exact nrm)))
      | ((first | ((with_reducible refine AD.k_store ?_); first | (refine AD.init (ty := 60) (p := 0) rfl rfl rfl rfl rfl rfl (by kernel_rfl) (by conv => lhs; whnf) rfl (by kernel_rfl) rfl rfl rfl (by intro r h; cases h) ?_) | (refine AD.init (ty := 60) (p := 1) rfl rfl rfl rfl rfl rfl (by kernel_rfl) (by conv => lhs; whnf) rfl (by kernel_rfl) rfl rfl rfl (by intro r h; cases h) ?_)) | ((with_reducible refine AD.k_alloc ?_); first | refine AD.new (ty := 60) (z := [.int .i64 0, .int .i64 0]) rfl rfl rfl (by kernel_rfl) rfl (Nat.lt_of_lt_of_le (Nat.lt_succ_self _) (Nat.le_of_ble_eq_true rfl)) rfl ?_)); (conv => (arg 10; try tactic => exact nrm)); (conv => (arg 9; try dsimp only [Nat.reduceAdd])); (conv => (arg 11; try tactic => exact nrm)))
      | (refine AD.nil ?_; (conv => (arg 4; simp only [List.drop_succ_cons, List.drop_zero, List.drop_nil])); (conv => (arg 5; try tactic => exact nrm)); (conv => (arg 6; try tactic => exact nrm))))
    | ((with_reducible refine AF.on ?_); first
      | ((first | ((with_reducible refine AF.k_move ?_); first | (refine AF.q 0 (SW.q (OQ.move (by conv => lhs; whnf)) rfl) ?_)) | ((with_reducible refine AF.k_load ?_); first | refine AF.ql rfl (SW.q (OQ.loadN (ty := 60) (n := 2) rfl (by kernel_rfl) (by kernel_rfl) rfl) rfl) ?_) | ((with_reducible refine AF.k_indexAddr ?_); first | refine AF.q 0 (SW.q (OQ.idxAddr (ty := 55) (z := 2) (g := true) rfl rfl (by kernel_rfl) (by omega) (by omega)) rfl) ?_)); (conv => (arg 9; try tactic => exact nrmF)); (conv => (arg 11; try simp only [List.nil_append, List.cons_append])))
      | ((first | first | (refine AF.sl rfl (SW.w (OW.store (ty := 60) (n := 2) rfl (by conv => lhs; whnf) rfl rfl (by kernel_rfl) rfl rfl (by decide) rfl (Nat.le_of_ble_eq_true rfl) (by intro r h; cases h)) rfl) rfl ?_)); (conv => (arg 9; try tactic => exact nrmF)); (conv => (arg 11; try simp only [List.nil_append, List.cons_append])); (conv => (arg 10; try tactic => exact nrmF)))
      | (refine AF.nil ?_ (by kernel_rfl); (conv => (arg 4; simp only [List.drop_succ_cons, List.drop_zero, List.drop_nil]))))
    | ((with_reducible refine FinP.on ?_); (first | refine FinP.ret (.tmp (by conv => lhs; whnf) (.tmp (by conv => lhs; whnf) .nil)) ?_ rfl | refine FinP.end (.tmp (by conv => lhs; whnf) (.tmp (by conv => lhs; whnf) .nil)) ?_ rfl); (try simp only [pack, List.drop, List.take]); all_goals (rfl)))
/-- Two right orbits without a tick in common. -/
theorem Touched_n1 (z1 z2 : Nat) (hn1 : nm1.size ≤ 1000) (hn2 : nm2.size ≤ 1000) (hR1 : Right bd1 l1) (hR2 : Right bd2 l2) (he1 : (orbE nm1.data.toList bd1 l1).2 = 0) (he2 : (orbE nm2.data.toList bd2 l2).2 = 0)
    (hco : if 1 = 1 then lastT l1 < frstT l2 else lastT l2 < frstT l1) (dd : Int → Bool) :
    ACalls Tryz.prog 24 [obI nm1 bd1 0 l1, obI nm2 bd2 1 l2] (two l1 l2 z1 z2) (.tuple #[rgV 2 (tchL (frstT l1) (lastT l1) (frstT l2) (lastT l2) dd), .int .i64 0])
      [some ⟨flatS l1, false, z1⟩, some ⟨flatS l2, false, z2⟩, rgB (tchL (frstT l1) (lastT l1) (frstT l2) (lastT l2) dd)] := by
  have ho1 := Ors.of_right hn1 hR1
  have ho2 := Ors.of_right hn2 hR2
  have HP1 := fun (m : Mem) (v : Value) (hS : SlB m v l1) => pathOf_q (bd := bd1) hS ho1
  have HP2 := fun (m : Mem) (v : Value) (hS : SlB m v l2) => pathOf_q (bd := bd2) hS ho2
  rw [he1] at HP1
  rw [he2] at HP2
  have HT1 := fun (m : Mem) (v : Value) (hS : SlB m v l1) => ticks_t (bd := bd1) hS ho1 hR1
  have HT2 := fun (m : Mem) (v : Value) (hS : SlB m v l2) => ticks_t (bd := bd2) hS ho2 hR2
  obtain ⟨a1, a2, a3⟩ := fl_le hR1
  obtain ⟨b1, b2, b3⟩ := fl_le hR2
  clear he1 he2
  generalize frstT l1 = x0 at *
  generalize lastT l1 = x1 at *
  generalize frstT l2 = y0 at *
  generalize lastT l2 = y1 at *
  obtain ⟨r1, r2, s1, s2, hrs, hT⟩ : ∃ r1 r2 s1 s2 : Int, (if 1 = 1 then r1 = x0 ∧ r2 = x1 ∧ s1 = y0 ∧ s2 = y1 else r1 = y0 ∧ r2 = y1 ∧ s1 = x0 ∧ s2 = x1) ∧ [(r1, r2), (s1, s2)].foldl jn1 [] = tchL x0 x1 y0 y1 dd := by
    simp only [Nat.reduceEqDiff, ↓reduceIte] at hco ⊢
    first
    | exact ⟨x0, x1, y0, y1, ⟨rfl, rfl, rfl, rfl⟩, touch_none a1 hco b1⟩
    | exact ⟨y0, y1, x0, x1, ⟨rfl, rfl, rfl, rfl⟩, by rw [tchL_comm]; exact touch_none b1 hco a1⟩
  simp only [Nat.reduceEqDiff, ↓reduceIte] at hco hrs
  obtain ⟨rfl, rfl, rfl, rfl⟩ := hrs
  rw [← hT]
  have hJ := fun (m : Mem) (b c : Nat) (blk : Blk) (h : m.at b = some blk) (hc : blk.cells = [.int .i64 r1, .int .i64 r2, .int .i64 s1, .int .i64 s2]) => joined_q2 (c := c) (L := [(r1, r2), (s1, s2)]) h hc (by simp) (fun r hr => by
    simp only [List.mem_cons, List.not_mem_nil, or_false] at hr
    rcases hr with rfl | rfl <;> simp only <;> omega)
  generalize [(r1, r2), (s1, s2)].foldl jn1 [] = qj at *
  have hsc := fun b h => (rgB_scal qj b h).2
  have hrn := rgV_rn2 (kσ 2 [10]) 2 qj
  have hok := rgV_ok2 (n := 3) (b := 2) qj (by decide)
  refine ACalls.enter (t := [obI nm1 bd1 0 l1, obI nm2 bd2 1 l2, undef, undef, undef, undef, undef, undef, undef, undef, undef, undef, undef, undef, undef, undef, undef, undef, undef, undef, undef, undef, undef, undef, undef, undef, undef, undef, undef, undef, undef, undef, undef, undef, undef, undef, undef, undef, undef, undef, undef, undef, undef, undef, undef, undef, undef, undef, undef, undef, undef, undef, undef, undef, undef, undef, undef, undef, undef, undef, undef, undef, undef, undef, undef, undef, undef, undef, undef, undef, undef, undef, undef, undef, undef, undef, undef, undef, undef, undef, undef, undef, undef, undef, undef, undef, undef, undef, undef, undef, undef, undef, undef, undef, undef, undef]) Tryz.func24 rfl rfl fun E hE => ?_
  repeat' (first
    | with_reducible refine Then.n ?_
    | with_reducible refine Then.r ?_
    | with_reducible refine Then.x ?_
    | with_reducible refine InB.n ?_
    | with_reducible refine InB.r ?_
    | with_reducible refine InB.hit ?_
    | with_reducible refine InB.miss (by decide) ?_
    | ((with_reducible refine AL.on ?_); first
      | ((first | ((with_reducible refine AL.k_move ?_); first | (refine AL.q rfl (OQ.move (by conv => lhs; whnf)) ?_)) | ((with_reducible refine AL.k_assign ?_); first | (refine AL.q rfl (OQ.assign (by conv => lhs; whnf)) ?_)) | ((with_reducible refine AL.k_load ?_); first | refine AL.q rfl (OQ.loadN (ty := 37) (n := 3) rfl (by kernel_rfl) (by kernel_rfl) rfl) ?_ | refine AL.q rfl (OQ.loadN (ty := 60) (n := 2) rfl (by kernel_rfl) (by kernel_rfl) rfl) ?_ | (refine AL.q rfl (OQ.load1 (ty := 3) rfl (by kernel_rfl) (by conv => lhs; whnf)) ?_) | refine AL.q rfl (OQ.loadN (ty := 123) (n := 3) rfl (by kernel_rfl) (by kernel_rfl) rfl) ?_) | ((with_reducible refine AL.k_extract ?_); first | refine AL.q rfl (OQ.extract rfl rfl) ?_) | ((with_reducible refine AL.k_fieldAddr ?_); first | refine AL.q rfl (OQ.fieldA (ty := 60) (i := 0) (n := 1) (off := 0) (g := false) rfl (by kernel_rfl) (by decide)) ?_) | ((with_reducible refine AL.k_binOp ?_); first | refine AL.q rfl (OQ.neq rfl rfl) ?_ | refine AL.q rfl (OQ.gtr rfl rfl) ?_ | refine AL.q rfl (OQ.lss rfl rfl) ?_) | ((with_reducible refine AL.k_indexAddr ?_); first | refine AL.q rfl (OQ.idxAddr (ty := 55) (z := 2) (g := true) rfl rfl (by kernel_rfl) (by omega) (by omega)) ?_)); (conv => (arg 5; try tactic => exact nrm)))
      | ((first | ((with_reducible refine AL.k_call ?_); first | refine AL.pcall (g := 62) rfl (by kernel_rfl) rfl ((by first | exact HP1 _ _ (.blk 0 _ rfl rfl rfl) | exact HP2 _ _ (.blk 1 _ rfl rfl rfl))) ?_ | refine AL.pcall (g := 63) rfl (by kernel_rfl) rfl (first2_z rfl rfl) ?_) | refine AL.q rfl OQ.mkfn ?_); (conv => (arg 5; try tactic => exact nrm)))
      | ((first | ((with_reducible refine AL.k_call ?_); first | refine AL.acall (g := 65) rfl (by kernel_rfl) rfl ((by exact hJ _ _ _ _ rfl rfl)) ?_) | ((with_reducible refine AL.k_store ?_); first | (refine AL.w rfl (OW.store (ty := 123) (n := 3) rfl (by conv => lhs; whnf) rfl rfl (by kernel_rfl) rfl rfl (by decide) rfl (Nat.le_of_ble_eq_true rfl) (by intro r h; cases h)) ?_) | (refine AL.w rfl (OW.store (ty := 60) (n := 2) rfl (by conv => lhs; whnf) rfl rfl (by kernel_rfl) rfl rfl (by decide) rfl (Nat.le_of_ble_eq_true rfl) (by intro r h; cases h)) ?_)) | ((with_reducible refine AL.k_alloc ?_); first | refine AL.w rfl (OW.alloc (ty := 123) (z := [.string ⟨#[]⟩, .int .i64 0, .slice none 0 0]) (by kernel_rfl) rfl) ?_) | ((with_reducible refine AL.k_buildSlice ?_); first | refine AL.w rfl (OW.buildSl (ty := 163) (zs := [.int .i64 0]) (n := 1) (g := false) (by kernel_rfl) (by kernel_rfl) rfl rfl rfl (by decide) (by decide) rfl rfl) ?_ | refine AL.w rfl (OW.buildSl (ty := 55) (zs := [.int .i64 0, .int .i64 0]) (n := 2) (g := true) (by kernel_rfl) (by kernel_rfl) rfl rfl rfl (by decide) (by decide) rfl rfl) ?_ | refine AL.w rfl (OW.buildSl (ty := 168) (zs := [.slice none 0 0]) (n := 1) (g := false) (by kernel_rfl) (by kernel_rfl) rfl rfl rfl (by decide) (by decide) rfl rfl) ?_) | ((with_reducible refine AL.k_box ?_); first | (refine AL.w rfl (OW.box (by conv => lhs; whnf) (by intro r h; cases h)) ?_))); (conv => (arg 5; try tactic => exact nrm)); (conv => (arg 6; try tactic => exact nrm)))
      | refine AL.nil ?_)
    | ((with_reducible refine AW.on ?_); first
      | refine AW.seq ?_
      | refine AW.skip ?_
      | refine AW.exit ?_
      | refine AW.ret ?_
      | refine AW.block ?_
      | (refine AW.draw (id := 6) 8 #[0, 1, 0, 7, 0, 0, 63, 127] (by kernel_rfl) (by kernel_rfl) ?_; (conv => (arg 8; simp only [List.take_succ_cons, List.take_zero])))
      | (refine AW.draw (id := 7) 12 #[0, 1, 0, 4, 15, 0, 32, 0, 128, 480, 31, 2047] (by kernel_rfl) (by kernel_rfl) ?_; (conv => (arg 8; simp only [List.take_succ_cons, List.take_zero])))
      | (refine AW.drawF (id := 11) 6 #[0, 0, 0, 0, 5, 21, 63, 127] (by kernel_rfl) (by kernel_rfl) ?_; (conv => (arg 8; simp only [List.take_succ_cons, List.take_zero])))
      | (refine AW.region (id := 5) ?_; exfalso; omega; done)
      | (refine AW.region (id := 13) ?_; exfalso; omega; done)
      | refine AW.region ?_
      | (refine AW.conds rfl (fun hc => ?_) (fun hc => ?_) <;> (try simp only [decide_eq_true_eq, decide_eq_false_iff_not, Bool.not_true, Bool.not_false, Bool.not_eq_true', Bool.not_eq_false', Int.not_lt, Int.not_le, Classical.not_not, ne_eq] at hc) <;> first | (exfalso; first | contradiction | (omega); done) | skip))
    | ((with_reducible refine AD.on ?_); first
      | ((first | ((with_reducible refine AD.k_assign ?_); first | (refine AD.q rfl (OQ.assign (by conv => lhs; whnf)) rfl rfl rfl ?_)) | ((with_reducible refine AD.k_load ?_); first | refine AD.q rfl (OQ.loadN (ty := 123) (n := 3) rfl (by kernel_rfl) (by kernel_rfl) rfl) rfl rfl rfl ?_ | (refine AD.q rfl (OQ.load1 (ty := 3) rfl (by kernel_rfl) (by conv => lhs; whnf)) rfl rfl rfl ?_)) | ((with_reducible refine AD.k_call ?_); first | refine AD.q rfl (OQ.max2 rfl rfl) rfl rfl rfl ?_ | refine AD.q rfl (OQ.min2 rfl rfl) rfl rfl rfl ?_) | ((with_reducible refine AD.k_fieldAddr ?_); first | refine AD.q rfl (OQ.fieldA (ty := 60) (i := 0) (n := 1) (off := 0) (g := false) rfl (by kernel_rfl) (by decide)) rfl rfl rfl ?_ | refine AD.q rfl (OQ.fieldA (ty := 60) (i := 1) (n := 1) (off := 1) (g := false) rfl (by kernel_rfl) (by decide)) rfl rfl rfl ?_)); (conv => (arg 10; try tactic => exact nrm)))
      | ((first | first | refine AD.pcall (g := 64) rfl (by kernel_rfl) rfl ((by first | exact HT1 _ _ (.blk 0 _ rfl rfl rfl) | exact HT2 _ _ (.blk 1 _ rfl rfl rfl))) rfl rfl ?_); (conv => (arg 10; try tactic => exact nrm)))
      | ((first | ((with_reducible refine AD.k_store ?_); first | (refine AD.init (ty := 60) (p := 0) rfl rfl rfl rfl rfl rfl (by kernel_rfl) (by conv => lhs; whnf) rfl (by kernel_rfl) rfl rfl rfl (by intro r h; cases h) ?_) | (refine AD.init (ty := 60) (p := 1) rfl rfl rfl rfl rfl rfl (by kernel_rfl) (by conv => lhs; whnf) rfl (by kernel_rfl) rfl rfl rfl (by intro r h; cases h) ?_)) | ((with_reducible refine AD.k_alloc ?_); first | refine AD.new (ty := 60) (z := [.int .i64 0, .int .i64 0]) rfl rfl rfl (by kernel_rfl) rfl (Nat.lt_of_lt_of_le (Nat.lt_succ_self _) (Nat.le_of_ble_eq_true rfl)) rfl ?_)); (conv => (arg 10; try tactic => exact nrm)); (conv => (arg 9; try dsimp only [Nat.reduceAdd])); (conv => (arg 11; try tactic => exact nrm)))
      | (refine AD.nil ?_; (conv => (arg 4; simp only [List.drop_succ_cons, List.drop_zero, List.drop_nil])); (conv => (arg 5; try tactic => exact nrm)); (conv => (arg 6; try tactic => exact nrm))))
    | ((with_reducible refine AF.on ?_); first
      | ((first | ((with_reducible refine AF.k_move ?_); first | (refine AF.q 0 (SW.q (OQ.move (by conv => lhs; whnf)) rfl) ?_)) | ((with_reducible refine AF.k_load ?_); first | refine AF.ql rfl (SW.q (OQ.loadN (ty := 60) (n := 2) rfl (by kernel_rfl) (by kernel_rfl) rfl) rfl) ?_) | ((with_reducible refine AF.k_indexAddr ?_); first | refine AF.q 0 (SW.q (OQ.idxAddr (ty := 55) (z := 2) (g := true) rfl rfl (by kernel_rfl) (by omega) (by omega)) rfl) ?_)); (conv => (arg 9; try tactic => exact nrmF)); (conv => (arg 11; try simp only [List.nil_append, List.cons_append])))
      | ((first | first | (refine AF.sl rfl (SW.w (OW.store (ty := 60) (n := 2) rfl (by conv => lhs; whnf) rfl rfl (by kernel_rfl) rfl rfl (by decide) rfl (Nat.le_of_ble_eq_true rfl) (by intro r h; cases h)) rfl) rfl ?_)); (conv => (arg 9; try tactic => exact nrmF)); (conv => (arg 11; try simp only [List.nil_append, List.cons_append])); (conv => (arg 10; try tactic => exact nrmF)))
      | (refine AF.nil ?_ (by kernel_rfl); (conv => (arg 4; simp only [List.drop_succ_cons, List.drop_zero, List.drop_nil]))))
    | ((with_reducible refine FinA.on ?_); (refine FinA.keep 2 [10] (.inl rfl) (.tmp (by conv => lhs; whnf) (.tmp (by conv => lhs; whnf) .nil)) ?_ (by show (ok2 3 (rgV 2 qj) && (true && true)) = true; rw [hok]; rfl) (Nat.le_of_eq hE) rfl rfl ⟨⟨_, rfl, rfl, rfl, .inl ⟨rfl, flatS_scal l1⟩⟩, ⟨_, rfl, rfl, rfl, .inl ⟨rfl, flatS_scal l2⟩⟩, memRen_opt rfl hsc trivial⟩; (show Value.tuple #[rn2 (kσ 2 [10]) (rgV 2 qj), .int .i64 0] = _); rw [hrn]; rfl)))
theorem Touched_n2 (z1 z2 : Nat) (hn1 : nm1.size ≤ 1000) (hn2 : nm2.size ≤ 1000) (hR1 : Right bd1 l1) (hR2 : Right bd2 l2) (he1 : (orbE nm1.data.toList bd1 l1).2 = 0) (he2 : (orbE nm2.data.toList bd2 l2).2 = 0)
    (hco : if 2 = 1 then lastT l1 < frstT l2 else lastT l2 < frstT l1) (dd : Int → Bool) :
    ACalls Tryz.prog 24 [obI nm1 bd1 0 l1, obI nm2 bd2 1 l2] (two l1 l2 z1 z2) (.tuple #[rgV 2 (tchL (frstT l1) (lastT l1) (frstT l2) (lastT l2) dd), .int .i64 0])
      [some ⟨flatS l1, false, z1⟩, some ⟨flatS l2, false, z2⟩, rgB (tchL (frstT l1) (lastT l1) (frstT l2) (lastT l2) dd)] := by
  have ho1 := Ors.of_right hn1 hR1
  have ho2 := Ors.of_right hn2 hR2
  have HP1 := fun (m : Mem) (v : Value) (hS : SlB m v l1) => pathOf_q (bd := bd1) hS ho1
  have HP2 := fun (m : Mem) (v : Value) (hS : SlB m v l2) => pathOf_q (bd := bd2) hS ho2
  rw [he1] at HP1
  rw [he2] at HP2
  have HT1 := fun (m : Mem) (v : Value) (hS : SlB m v l1) => ticks_t (bd := bd1) hS ho1 hR1
  have HT2 := fun (m : Mem) (v : Value) (hS : SlB m v l2) => ticks_t (bd := bd2) hS ho2 hR2
  obtain ⟨a1, a2, a3⟩ := fl_le hR1
  obtain ⟨b1, b2, b3⟩ := fl_le hR2
  clear he1 he2
  generalize frstT l1 = x0 at *
  generalize lastT l1 = x1 at *
  generalize frstT l2 = y0 at *
  generalize lastT l2 = y1 at *
  obtain ⟨r1, r2, s1, s2, hrs, hT⟩ : ∃ r1 r2 s1 s2 : Int, (if 2 = 1 then r1 = x0 ∧ r2 = x1 ∧ s1 = y0 ∧ s2 = y1 else r1 = y0 ∧ r2 = y1 ∧ s1 = x0 ∧ s2 = x1) ∧ [(r1, r2), (s1, s2)].foldl jn1 [] = tchL x0 x1 y0 y1 dd := by
    simp only [Nat.reduceEqDiff, ↓reduceIte] at hco ⊢
    first
    | exact ⟨x0, x1, y0, y1, ⟨rfl, rfl, rfl, rfl⟩, touch_none a1 hco b1⟩
    | exact ⟨y0, y1, x0, x1, ⟨rfl, rfl, rfl, rfl⟩, by rw [tchL_comm]; exact touch_none b1 hco a1⟩
  simp only [Nat.reduceEqDiff, ↓reduceIte] at hco hrs
  obtain ⟨rfl, rfl, rfl, rfl⟩ := hrs
  rw [← hT]
  have hJ := fun (m : Mem) (b c : Nat) (blk : Blk) (h : m.at b = some blk) (hc : blk.cells = [.int .i64 r1, .int .i64 r2, .int .i64 s1, .int .i64 s2]) => joined_q2 (c := c) (L := [(r1, r2), (s1, s2)]) h hc (by simp) (fun r hr => by
    simp only [List.mem_cons, List.not_mem_nil, or_false] at hr
    rcases hr with rfl | rfl <;> simp only <;> omega)
  generalize [(r1, r2), (s1, s2)].foldl jn1 [] = qj at *
  have hsc := fun b h => (rgB_scal qj b h).2
  have hrn := rgV_rn2 (kσ 2 [10]) 2 qj
  have hok := rgV_ok2 (n := 3) (b := 2) qj (by decide)
  refine ACalls.enter (t := [obI nm1 bd1 0 l1, obI nm2 bd2 1 l2, undef, undef, undef, undef, undef, undef, undef, undef, undef, undef, undef, undef, undef, undef, undef, undef, undef, undef, undef, undef, undef, undef, undef, undef, undef, undef, undef, undef, undef, undef, undef, undef, undef, undef, undef, undef, undef, undef, undef, undef, undef, undef, undef, undef, undef, undef, undef, undef, undef, undef, undef, undef, undef, undef, undef, undef, undef, undef, undef, undef, undef, undef, undef, undef, undef, undef, undef, undef, undef, undef, undef, undef, undef, undef, undef, undef, undef, undef, undef, undef, undef, undef, undef, undef, undef, undef, undef, undef, undef, undef, undef, undef, undef, undef]) Tryz.func24 rfl rfl fun E hE => ?_
  repeat' (first
    | with_reducible refine Then.n ?_
    | with_reducible refine Then.r ?_
    | with_reducible refine Then.x ?_
    | with_reducible refine InB.n ?_
    | with_reducible refine InB.r ?_
    | with_reducible refine InB.hit ?_
    | with_reducible refine InB.miss (by decide) ?_
    | ((with_reducible refine AL.on ?_); first
      | ((first | ((with_reducible refine AL.k_move ?_); first | (refine AL.q rfl (OQ.move (by conv => lhs; whnf)) ?_)) | ((with_reducible refine AL.k_assign ?_); first | (refine AL.q rfl (OQ.assign (by conv => lhs; whnf)) ?_)) | ((with_reducible refine AL.k_load ?_); first | refine AL.q rfl (OQ.loadN (ty := 37) (n := 3) rfl (by kernel_rfl) (by kernel_rfl) rfl) ?_ | refine AL.q rfl (OQ.loadN (ty := 60) (n := 2) rfl (by kernel_rfl) (by kernel_rfl) rfl) ?_ | (refine AL.q rfl (OQ.load1 (ty := 3) rfl (by kernel_rfl) (by conv => lhs; whnf)) ?_) | refine AL.q rfl (OQ.loadN (ty := 123) (n := 3) rfl (by kernel_rfl) (by kernel_rfl) rfl) ?_) | ((with_reducible refine AL.k_extract ?_); first | refine AL.q rfl (OQ.extract rfl rfl) ?_) | ((with_reducible refine AL.k_fieldAddr ?_); first | refine AL.q rfl (OQ.fieldA (ty := 60) (i := 0) (n := 1) (off := 0) (g := false) rfl (by kernel_rfl) (by decide)) ?_) | ((with_reducible refine AL.k_binOp ?_); first | refine AL.q rfl (OQ.neq rfl rfl) ?_ | refine AL.q rfl (OQ.gtr rfl rfl) ?_ | refine AL.q rfl (OQ.lss rfl rfl) ?_) | ((with_reducible refine AL.k_indexAddr ?_); first | refine AL.q rfl (OQ.idxAddr (ty := 55) (z := 2) (g := true) rfl rfl (by kernel_rfl) (by omega) (by omega)) ?_)); (conv => (arg 5; try tactic => exact nrm)))
      | ((first | ((with_reducible refine AL.k_call ?_); first | refine AL.pcall (g := 62) rfl (by kernel_rfl) rfl ((by first | exact HP1 _ _ (.blk 0 _ rfl rfl rfl) | exact HP2 _ _ (.blk 1 _ rfl rfl rfl))) ?_ | refine AL.pcall (g := 63) rfl (by kernel_rfl) rfl (first2_z rfl rfl) ?_) | refine AL.q rfl OQ.mkfn ?_); (conv => (arg 5; try tactic => exact nrm)))
      | ((first | ((with_reducible refine AL.k_call ?_); first | refine AL.acall (g := 65) rfl (by kernel_rfl) rfl ((by exact hJ _ _ _ _ rfl rfl)) ?_) | ((with_reducible refine AL.k_store ?_); first | (refine AL.w rfl (OW.store (ty := 123) (n := 3) rfl (by conv => lhs; whnf) rfl rfl (by kernel_rfl) rfl rfl (by decide) rfl (Nat.le_of_ble_eq_true rfl) (by intro r h; cases h)) ?_) | (refine AL.w rfl (OW.store (ty := 60) (n := 2) rfl (by conv => lhs; whnf) rfl rfl (by kernel_rfl) rfl rfl (by decide) rfl (Nat.le_of_ble_eq_true rfl) (by intro r h; cases h)) ?_)) | ((with_reducible refine AL.k_alloc ?_); first | refine AL.w rfl (OW.alloc (ty := 123) (z := [.string ⟨#[]⟩, .int .i64 0, .slice none 0 0]) (by kernel_rfl) rfl) ?_) | ((with_reducible refine AL.k_buildSlice ?_); first | refine AL.w rfl (OW.buildSl (ty := 163) (zs := [.int .i64 0]) (n := 1) (g := false) (by kernel_rfl) (by kernel_rfl) rfl rfl rfl (by decide) (by decide) rfl rfl) ?_ | refine AL.w rfl (OW.buildSl (ty := 55) (zs := [.int .i64 0, .int .i64 0]) (n := 2) (g := true) (by kernel_rfl) (by kernel_rfl) rfl rfl rfl (by decide) (by decide) rfl rfl) ?_ | refine AL.w rfl (OW.buildSl (ty := 168) (zs := [.slice none 0 0]) (n := 1) (g := false) (by kernel_rfl) (by kernel_rfl) rfl rfl rfl (by decide) (by decide) rfl rfl) ?_) | ((with_reducible refine AL.k_box ?_); first | (refine AL.w rfl (OW.box (by conv => lhs; whnf) (by intro r h; cases h)) ?_))); (conv => (arg 5; try tactic => exact nrm)); (conv => (arg 6; try tactic => exact nrm)))
      | refine AL.nil ?_)
    | ((with_reducible refine AW.on ?_); first
      | refine AW.seq ?_
      | refine AW.skip ?_
      | refine AW.exit ?_
      | refine AW.ret ?_
      | refine AW.block ?_
      | (refine AW.draw (id := 6) 8 #[0, 1, 0, 7, 0, 0, 63, 127] (by kernel_rfl) (by kernel_rfl) ?_; (conv => (arg 8; simp only [List.take_succ_cons, List.take_zero])))
      | (refine AW.draw (id := 7) 12 #[0, 1, 0, 4, 15, 0, 32, 0, 128, 480, 31, 2047] (by kernel_rfl) (by kernel_rfl) ?_; (conv => (arg 8; simp only [List.take_succ_cons, List.take_zero])))
      | (refine AW.drawF (id := 11) 6 #[0, 0, 0, 0, 5, 21, 63, 127] (by kernel_rfl) (by kernel_rfl) ?_; (conv => (arg 8; simp only [List.take_succ_cons, List.take_zero])))
      | (refine AW.region (id := 5) ?_; exfalso; omega; done)
      | (refine AW.region (id := 13) ?_; exfalso; omega; done)
      | refine AW.region ?_
      | (refine AW.conds rfl (fun hc => ?_) (fun hc => ?_) <;> (try simp only [decide_eq_true_eq, decide_eq_false_iff_not, Bool.not_true, Bool.not_false, Bool.not_eq_true', Bool.not_eq_false', Int.not_lt, Int.not_le, Classical.not_not, ne_eq] at hc) <;> first | (exfalso; first | contradiction | (omega); done) | skip))
    | ((with_reducible refine AD.on ?_); first
      | ((first | ((with_reducible refine AD.k_assign ?_); first | (refine AD.q rfl (OQ.assign (by conv => lhs; whnf)) rfl rfl rfl ?_)) | ((with_reducible refine AD.k_load ?_); first | refine AD.q rfl (OQ.loadN (ty := 123) (n := 3) rfl (by kernel_rfl) (by kernel_rfl) rfl) rfl rfl rfl ?_ | (refine AD.q rfl (OQ.load1 (ty := 3) rfl (by kernel_rfl) (by conv => lhs; whnf)) rfl rfl rfl ?_)) | ((with_reducible refine AD.k_call ?_); first | refine AD.q rfl (OQ.max2 rfl rfl) rfl rfl rfl ?_ | refine AD.q rfl (OQ.min2 rfl rfl) rfl rfl rfl ?_) | ((with_reducible refine AD.k_fieldAddr ?_); first | refine AD.q rfl (OQ.fieldA (ty := 60) (i := 0) (n := 1) (off := 0) (g := false) rfl (by kernel_rfl) (by decide)) rfl rfl rfl ?_ | refine AD.q rfl (OQ.fieldA (ty := 60) (i := 1) (n := 1) (off := 1) (g := false) rfl (by kernel_rfl) (by decide)) rfl rfl rfl ?_)); (conv => (arg 10; try tactic => exact nrm)))
      | ((first | first | refine AD.pcall (g := 64) rfl (by kernel_rfl) rfl ((by first | exact HT1 _ _ (.blk 0 _ rfl rfl rfl) | exact HT2 _ _ (.blk 1 _ rfl rfl rfl))) rfl rfl ?_); (conv => (arg 10; try tactic => exact nrm)))
      | ((first | ((with_reducible refine AD.k_store ?_); first | (refine AD.init (ty := 60) (p := 0) rfl rfl rfl rfl rfl rfl (by kernel_rfl) (by conv => lhs; whnf) rfl (by kernel_rfl) rfl rfl rfl (by intro r h; cases h) ?_) | (refine AD.init (ty := 60) (p := 1) rfl rfl rfl rfl rfl rfl (by kernel_rfl) (by conv => lhs; whnf) rfl (by kernel_rfl) rfl rfl rfl (by intro r h; cases h) ?_)) | ((with_reducible refine AD.k_alloc ?_); first | refine AD.new (ty := 60) (z := [.int .i64 0, .int .i64 0]) rfl rfl rfl (by kernel_rfl) rfl (Nat.lt_of_lt_of_le (Nat.lt_succ_self _) (Nat.le_of_ble_eq_true rfl)) rfl ?_)); (conv => (arg 10; try tactic => exact nrm)); (conv => (arg 9; try dsimp only [Nat.reduceAdd])); (conv => (arg 11; try tactic => exact nrm)))
      | (refine AD.nil ?_; (conv => (arg 4; simp only [List.drop_succ_cons, List.drop_zero, List.drop_nil])); (conv => (arg 5; try tactic => exact nrm)); (conv => (arg 6; try tactic => exact nrm))))
    | ((with_reducible refine AF.on ?_); first
      | ((first | ((with_reducible refine AF.k_move ?_); first | (refine AF.q 0 (SW.q (OQ.move (by conv => lhs; whnf)) rfl) ?_)) | ((with_reducible refine AF.k_load ?_); first | refine AF.ql rfl (SW.q (OQ.loadN (ty := 60) (n := 2) rfl (by kernel_rfl) (by kernel_rfl) rfl) rfl) ?_) | ((with_reducible refine AF.k_indexAddr ?_); first | refine AF.q 0 (SW.q (OQ.idxAddr (ty := 55) (z := 2) (g := true) rfl rfl (by kernel_rfl) (by omega) (by omega)) rfl) ?_)); (conv => (arg 9; try tactic => exact nrmF)); (conv => (arg 11; try simp only [List.nil_append, List.cons_append])))
      | ((first | first | (refine AF.sl rfl (SW.w (OW.store (ty := 60) (n := 2) rfl (by conv => lhs; whnf) rfl rfl (by kernel_rfl) rfl rfl (by decide) rfl (Nat.le_of_ble_eq_true rfl) (by intro r h; cases h)) rfl) rfl ?_)); (conv => (arg 9; try tactic => exact nrmF)); (conv => (arg 11; try simp only [List.nil_append, List.cons_append])); (conv => (arg 10; try tactic => exact nrmF)))
      | (refine AF.nil ?_ (by kernel_rfl); (conv => (arg 4; simp only [List.drop_succ_cons, List.drop_zero, List.drop_nil]))))
    | ((with_reducible refine FinA.on ?_); (refine FinA.keep 2 [10] (.inl rfl) (.tmp (by conv => lhs; whnf) (.tmp (by conv => lhs; whnf) .nil)) ?_ (by show (ok2 3 (rgV 2 qj) && (true && true)) = true; rw [hok]; rfl) (Nat.le_of_eq hE) rfl rfl ⟨⟨_, rfl, rfl, rfl, .inl ⟨rfl, flatS_scal l1⟩⟩, ⟨_, rfl, rfl, rfl, .inl ⟨rfl, flatS_scal l2⟩⟩, memRen_opt rfl hsc trivial⟩; (show Value.tuple #[rn2 (kσ 2 [10]) (rgV 2 qj), .int .i64 0] = _); rw [hrn]; rfl)))
end
end Go.Proofs.YthhhkjbhhjcjoaaGreatDoor
end

section
namespace Go.Proofs.YthhhkjbhhjcjoaaGreatDoor
open Go Go.RowKit Go.Ob Go.Ab
set_option maxRecDepth 100000
set_option maxHeartbeats 2000000
/-- Two orbits of a greater memory. -/
theorem two_lies {l1 l2 : List St} {m : Mem} {i j : Nat} {b1 b2 : Blk} (h1 : m.at i = some b1) (c1 : b1.cells = flatS l1) (h2 : m.at j = some b2) (c2 : b2.cells = flatS l2) : Lies (two l1 l2 b1.esz b2.esz) m (fun b => if b = 0 then i else j) := fun x bk hx => by
  have := Mem.at_lt hx
  match x, this with
  | 0, _ =>
    simp [Mem.at] at hx
    subst hx
    refine ⟨rfl, ok1_of_scal (flatS_scal l1), b1, h1, rfl, fun k v hv => ?_⟩
    rw [c1, rn1_scal (List.all_eq_true.1 (flatS_scal l1) v (List.mem_of_getElem? hv))]
    exact hv
  | 1, _ =>
    simp [Mem.at] at hx
    subst hx
    refine ⟨rfl, ok1_of_scal (flatS_scal l2), b2, h2, rfl, fun k v hv => ?_⟩
    rw [c2, rn1_scal (List.all_eq_true.1 (flatS_scal l2) v (List.mem_of_getElem? hv))]
    exact hv
  | x + 2, h => exact absurd h (by simp)
section
variable {l1 l2 : List St} {nm1 nm2 : ByteArray} {bd1 bd2 : Int}
theorem two_v {f : FuncId} {us : List Value} {r : Value} {m : Mem} {i j : Nat} {b1 b2 : Blk} (h : ∀ z1 z2, PCalls Tryz.prog f (obI nm1 bd1 0 l1 :: obI nm2 bd2 1 l2 :: us) (two l1 l2 z1 z2) r)
    (h1 : m.at i = some b1) (c1 : b1.cells = flatS l1) (h2 : m.at j = some b2) (c2 : b2.cells = flatS l2) (hu : us.map (rn3 fun b => if b = 0 then i else j) = us) (hku : us.all (ok3 2) = true) (hr : rn3 (fun b => if b = 0 then i else j) r = r) (hkr : ok3 2 r = true) :
    PCalls Tryz.prog f (obI nm1 bd1 i l1 :: obI nm2 bd2 j l2 :: us) m r := by
  refine PCalls.via (fun b => if b = 0 then i else j) (h b1.esz b2.esz) (two_lies h1 c1 h2 c2) ?_ ?_ hr hkr
  · show _ :: _ :: us.map _ = _
    rw [hu]
    rfl
  · show (ok3 2 (obI nm1 bd1 0 l1) && (ok3 2 (obI nm2 bd2 1 l2) && us.all (ok3 2))) = true
    rw [hku]
    rfl
theorem two_a {f : FuncId} {L : List (Int × Int)} {m : Mem} {i j : Nat} {b1 b2 : Blk} (h : ∀ z1 z2, ACalls Tryz.prog f [obI nm1 bd1 0 l1, obI nm2 bd2 1 l2] (two l1 l2 z1 z2) (.tuple #[rgV 2 L, .int .i64 0]) [some ⟨flatS l1, false, z1⟩, some ⟨flatS l2, false, z2⟩, rgB L])
    (h1 : m.at i = some b1) (c1 : b1.cells = flatS l1) (h2 : m.at j = some b2) (c2 : b2.cells = flatS l2) :
    ACalls Tryz.prog f [obI nm1 bd1 i l1, obI nm2 bd2 j l2] m (.tuple #[rgV m.length L, .int .i64 0]) (m ++ [rgB L]) := by
  refine ACalls.viaN (m0 := two l1 l2 b1.esz b2.esz) (x := rgB L) (fun b => if b = 0 then i else j) (h b1.esz b2.esz) (two_lies h1 c1 h2 c2) (fun b hb => ?_) (rgB_scal L) rfl rfl ?_ ?_
  · match b, hb with
    | 0, _ => exact ⟨_, rfl⟩
    | 1, _ => exact ⟨_, rfl⟩
    | b + 2, h => exact absurd h (by simp)
  · show Value.tuple #[rn2 _ (rgV 2 L), .int .i64 0] = _
    rw [rgV_rn2]
    simp [τn]
  · show (ok2 3 (rgV 2 L) && (true && true)) = true
    rw [rgV_ok2 L (by decide)]
    rfl
section
attribute [local irreducible] OQ OW AL AW AD AF SW
theorem tcD_comm : tcD bd1 bd2 l1 l2 = tcD bd2 bd1 l2 l1 := funext fun t => bxN_comm _ _
end
section
attribute [local irreducible] OQ OW AL AW AD AF SW rgV rgB
end
end
end Go.Proofs.YthhhkjbhhjcjoaaGreatDoor
end
