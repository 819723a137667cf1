/- Chapter 2: the reference's squares. -/
import Derived.Test.Ytaoennekamlfeaa02H
set_option linter.unusedSimpArgs false
set_option linter.unusedVariables false
namespace Go.Proofs.Ytaoennekamlfeaa
open Go.RowKit Go.Ob

def rLo (lo hi x : Int) : Int := if lo ≤ x ∧ x ≤ hi then 0 else imn ((x - lo) * (x - lo)) ((x - hi) * (x - hi))
def rHi (lo hi x : Int) : Int := imx ((x - lo) * (x - lo)) ((x - hi) * (x - hi))
theorem sq_mono {a b : Int} (h0 : 0 ≤ a) (h1 : a ≤ b) : a * a ≤ b * b := Int.mul_le_mul h1 h1 h0 (by omega)
theorem sq_sym (a b : Int) : (a - b) * (a - b) = (b - a) * (b - a) := by rw [← Int.neg_mul_neg, Int.neg_sub]
theorem near_sq {lo hi x : Int} (h : lo ≤ hi) : near lo hi x * near lo hi x = rLo lo hi x := by
  unfold near rLo
  by_cases h1 : x < lo
  · have e : imx (imx (lo - x) (x - hi)) 0 = lo - x := by unfold imx; repeat' split <;> omega
    rw [e, if_neg (by omega), sq_sym lo x]
    have := sq_mono (a := lo - x) (b := hi - x) (by omega) (by omega)
    rw [sq_sym lo x, sq_sym hi x] at this
    unfold imn
    split <;> omega
  · by_cases h2 : hi < x
    · have e : imx (imx (lo - x) (x - hi)) 0 = x - hi := by unfold imx; repeat' split <;> omega
      rw [e, if_neg (by omega)]
      have := sq_mono (a := x - hi) (b := x - lo) (by omega) (by omega)
      unfold imn
      split <;> omega
    · have e : imx (imx (lo - x) (x - hi)) 0 = 0 := by unfold imx; repeat' split <;> omega
      rw [e, if_pos (by omega)]; rfl
theorem far_sq {lo hi x : Int} (h : lo ≤ hi) : far lo hi x * far lo hi x = rHi lo hi x := by
  unfold far rHi
  by_cases h1 : hi - x < x - lo
  · have e : imx (hi - x) (x - lo) = x - lo := by unfold imx; rw [if_pos h1]
    rw [e]
    by_cases h2 : x < hi
    · have := sq_mono (a := hi - x) (b := x - lo) (by omega) (by omega)
      rw [sq_sym hi x] at this
      unfold imx
      split <;> omega
    · have := sq_mono (a := x - hi) (b := x - lo) (by omega) (by omega)
      unfold imx
      split <;> omega
  · have e : imx (hi - x) (x - lo) = hi - x := by unfold imx; rw [if_neg h1]
    rw [e, sq_sym hi x]
    by_cases h2 : x < lo
    · have := sq_mono (a := lo - x) (b := hi - x) (by omega) (by omega)
      rw [sq_sym lo x, sq_sym hi x] at this
      unfold imx
      split <;> omega
    · have := sq_mono (a := x - lo) (b := hi - x) (by omega) (by omega)
      rw [sq_sym hi x] at this
      unfold imx
      split <;> omega

theorem tri (A B : Int) : (B < A ∧ ¬ A < B) ∨ (¬ B < A ∧ A < B) ∨ (¬ B < A ∧ ¬ A < B) := by omega

set_option maxRecDepth 100000 in
set_option maxHeartbeats 8000000 in
theorem rSquares_any (q : Bx) (x y z : Int) (w : World) (hq : q.Ok) (hx : -200000000 ≤ x ∧ x ≤ 200000000) (hy : -200000000 ≤ y ∧ y ≤ 200000000) (hz : -200000000 ≤ z ∧ z ≤ 200000000) :
    Calls Try.prog 41 #[bxV q, v3 x y z] w fun e w' => e = .returned (.agg #[.int .i64 (sqLo q x y z), .int .i64 (sqHi q x y z)]) ∧ Below w.heap.size w w' := by
  have n0 := near_bd hq.l00 hq.l01 hq.h01 hx.1 hx.2
  have n1 := near_bd hq.l10 hq.l11 hq.h11 hy.1 hy.2
  have n2 := near_bd hq.l20 hq.l21 hq.h21 hz.1 hz.2
  have f0 := far_bd hq.l00 hq.l01 hq.h01 hx.1 hx.2
  have f1 := far_bd hq.l10 hq.l11 hq.h11 hy.1 hy.2
  have f2 := far_bd hq.l20 hq.l21 hq.h21 hz.1 hz.2
  have eL : sqLo q x y z = rLo q.l0 q.h0 x + rLo q.l1 q.h1 y + rLo q.l2 q.h2 z := by unfold sqLo; rw [near_sq hq.l01, near_sq hq.l11, near_sq hq.l21]
  have eH : sqHi q x y z = rHi q.l0 q.h0 x + rHi q.l1 q.h1 y + rHi q.l2 q.h2 z := by unfold sqHi; rw [far_sq hq.l01, far_sq hq.l11, far_sq hq.l21]
  rw [near_sq hq.l01] at n0
  rw [near_sq hq.l11] at n1
  rw [near_sq hq.l21] at n2
  rw [far_sq hq.l01] at f0
  rw [far_sq hq.l11] at f1
  rw [far_sq hq.l21] at f2
  rw [eL, eH]
  clear eL eH
  obtain ⟨l0, h0, l1, h1, l2, h2⟩ := q
  obtain ⟨q1, q2, q3, q4, q5, q6, q7, q8, q9⟩ := hq
  simp only at *
  obtain ⟨x0, x1⟩ := hx
  obtain ⟨y0, y1⟩ := hy
  obtain ⟨z0, z1⟩ := hz
  obtain ⟨n00, n01⟩ := n0
  obtain ⟨n10, n11⟩ := n1
  obtain ⟨n20, n21⟩ := n2
  obtain ⟨f00, f01⟩ := f0
  obtain ⟨f10, f11⟩ := f1
  obtain ⟨f20, f21⟩ := f2
  have HW := Lib.hid (fun n lo hi w => rWithin_any n lo hi w)
  refine Calls.made fun R HR => ?_
  go_enter Try.func41, Try.ntmps41
  go_wp2_with (go_at_call 93; refine (coordinates_any _ _ _ _).mono ?_; rintro e w1 ⟨rfl, hb1⟩; have hc1 := (Free.cells_of hb1).1; have hf1 := (Free.cells_of hb1).2; have hz1 := hb1.size; (try simp only [World.size_alloc, World.size_setCell, World.size_drew] at hz1); (try (have : w.heap.size < w1.heap.size := (by omega))); (try (have : w.heap.size < w1.heap.size + 1 := (by omega))); (try (have : w.heap.size < w1.heap.size + 1 + 1 := (by omega))); (try (have : w.heap.size + 1 < w1.heap.size := (by omega))); (try (have : w.heap.size + 1 < w1.heap.size + 1 := (by omega))); (try (have : w.heap.size + 1 < w1.heap.size + 1 + 1 := (by omega))); (try (have : w.heap.size + 1 + 1 < w1.heap.size := (by omega))); (try (have : w.heap.size + 1 + 1 < w1.heap.size + 1 := (by omega))); (try (have : w.heap.size + 1 + 1 < w1.heap.size + 1 + 1 := (by omega))); (try (have : w.heap.size + 1 + 1 + 1 < w1.heap.size := (by omega))); (try (have : w.heap.size + 1 + 1 + 1 < w1.heap.size + 1 := (by omega))); (try (have : w.heap.size + 1 + 1 + 1 < w1.heap.size + 1 + 1 := (by omega))); (try (have : w.heap.size + 1 + 1 + 1 + 1 < w1.heap.size := (by omega))); (try (have : w.heap.size + 1 + 1 + 1 + 1 < w1.heap.size + 1 := (by omega))); (try (have : w.heap.size + 1 + 1 + 1 + 1 < w1.heap.size + 1 + 1 := (by omega))))
  have hp1 := hb1.size
  simp only [World.size_alloc] at hp1
  have s2 : (w1.alloc (.cells #[.int .i64 x, .int .i64 y, .int .i64 z] 67)).heap[w.heap.size]? = some (.cells #[.int .i64 l0, .int .i64 h0, .int .i64 l1, .int .i64 h1, .int .i64 l2, .int .i64 h2] 45 (0, 0)) := Free.blk_alloc_old (Free.blk_below (Free.blk_alloc_old (Free.blk_alloc_old (Free.blk_alloc_old (Free.blk_new _ rfl)))) hb1)
  have s4 : (w1.alloc (.cells #[.int .i64 x, .int .i64 y, .int .i64 z] 67)).heap[w.heap.size + 1 + 1]? = some (.cells #[.int .i64 0, .int .i64 0] 44 (0, 0)) := Free.blk_alloc_old (Free.blk_below (Free.blk_alloc_old (Free.blk_new _ (by simp))) hb1)
  have s5 : (w1.alloc (.cells #[.int .i64 x, .int .i64 y, .int .i64 z] 67)).heap[w.heap.size + 1 + 1 + 1]? = some (.cells #[.int .i64 0, .int .i64 0] 44 (0, 0)) := Free.blk_alloc_old (Free.blk_below (Free.blk_new _ (by simp)) hb1)
  have S2 := Lib.hid s2
  have S4 := Lib.hid s4
  have S5 := Lib.hid s5
  clear s2 s4 s5
  go_loopw [7, 8, 9] (fun i _ _ wr => ∃ k : Nat, k ≤ 3 ∧ i = .int .i64 k ∧ Hid (Below w.heap.size w wr) ∧ Hid (wr.heap[w.heap.size]? = some (.cells #[.int .i64 l0, .int .i64 h0, .int .i64 l1, .int .i64 h1, .int .i64 l2, .int .i64 h2] 45 (0, 0))) ∧
      Hid (wr.heap[w1.heap.size]? = some (.cells #[.int .i64 x, .int .i64 y, .int .i64 z] 67 (0, 0))) ∧ Hid (wr.heap[w.heap.size + 1 + 1]? = some (.cells #[.int .i64 0, .int .i64 0] 44 (0, 0))) ∧
      Hid (wr.heap[w.heap.size + 1 + 1 + 1]? = some (.cells #[.int .i64 (ps (rLo l0 h0 x) (rLo l1 h1 y) (rLo l2 h2 z) k), .int .i64 (ps (rHi l0 h0 x) (rHi l1 h1 y) (rHi l2 h2 z) k)] 44 (0, 0)))) (fun i _ _ _ => 3 - (intOf i).toNat)
  case atStart => exact ⟨0, by omega, rfl, Lib.hid (by repeat' first | with_reducible exact Below.refl _ _ | with_reducible assumption | with_reducible refine Free.Grow.alloc ?_ _ | with_reducible refine Free.Grow.setCell ?_ (by first | omega | (simp; done) | (simp; omega)) _ | with_reducible refine Free.Grow.drew ?_ | with_reducible refine Free.Grow.trans ?_ (by assumption)), S2, Free.blk_new _ rfl, S4, by simp only [ps_0]; exact S5⟩
  case round =>
    obtain ⟨k, hk, rfl, HB, HK2, HK6, HK4, HK5⟩ := hrel
    have k2 := HK2.out
    have k6 := HK6.out
    have k4 := HK4.out
    have k5 := HK5.out
    have c2 := Free.cell_of_blk k2
    have c6 := Free.cell_of_blk k6
    have l2' := Free.lt_of_blk k2
    have l6' := Free.lt_of_blk k6
    have l4' := Free.lt_of_blk k4
    have l5' := Free.lt_of_blk k5
    have f4 := Free.frozen_of_blk k4
    have f5 := Free.frozen_of_blk k5
    have hbw := HB.out
    have hk4 : k = 0 ∨ k = 1 ∨ k = 2 ∨ k = 3 := by omega
    clear hk
    rcases hk4 with rfl | rfl | rfl | rfl
    all_goals simp only [ps_0, ps_1, ps_2, ps_3] at k5
    all_goals have c5 := Free.cell_of_blk k5
    all_goals have c4 := Free.cell_of_blk k4
    all_goals clear HK2 HK6 HK4 HK5
    · have sA := sq_bd (n := x - l0) (M := 500000000) (by omega) (by omega)
      have sB := sq_bd (n := x - h0) (M := 500000000) (by omega) (by omega)
      obtain ⟨sA0, sA1⟩ := sA
      obtain ⟨sB0, sB1⟩ := sB
      have HWk := Lib.hid (HW.out x l0 h0)
      have eH : rHi l0 h0 x = imx ((x - l0) * (x - l0)) ((x - h0) * (x - h0)) := rfl
      have eL : rLo l0 h0 x = if l0 ≤ x ∧ x ≤ h0 then 0 else imn ((x - l0) * (x - l0)) ((x - h0) * (x - h0)) := rfl
      by_cases hw : l0 ≤ x ∧ x ≤ h0
      all_goals rcases tri ((x - l0) * (x - l0)) ((x - h0) * (x - h0)) with ⟨t1, t2⟩ | ⟨t1, t2⟩ | ⟨t1, t2⟩
      all_goals
        first
        | (rw [show rngB x l0 h0 = true from rngB_true.2 hw] at HWk; rw [if_pos hw] at eL)
        | (rw [show rngB x l0 h0 = false from rngB_false.2 hw] at HWk; rw [if_neg hw] at eL)
        unfold imx at eH
        try unfold imn at eL
        first | rw [if_pos t2] at eH | rw [if_neg t2] at eH
        first | rw [if_pos t1] at eL | rw [if_neg t1] at eL | skip
        have EL := Lib.hid eL
        have EH := Lib.hid eH
        have T1 := Lib.hid t1
        have T2 := Lib.hid t2
        clear eL eH t1 t2 hw
        go_wp2
        refine Free.wp_region 18 #[0, 1, 3, 0, 8, 24, 56, 127, 0, 256, 768, 0, 2048, 6144, 14336, 32512, 255, 131071] (by kernel_rfl) (by kernel_rfl) ?_
        simp only [List.take_succ_cons, List.take_zero]
        iterate 18
          refine Free.E.q (by rfl) ?_
          apply Exists.intro
          refine ⟨fun u w' hc hb => ?_, ?_⟩
          go_simp
          (try go_ints); (try simp only [Ob.ite_imx, Ob.ite_imn]); first | exact rfl | (go_simp; exact rfl) | (simp only [↓IntWalk.iteOmega]; (try go_simp); exact rfl)
          simp only [Act.put, List.setIfInBounds_toArray, List.set_cons_zero, List.set_cons_succ, List.nil_append, List.cons_append]
        refine Free.E.nil (fun u wa S hF => ?_)
        have hba := hF.below
        clear hF
        have hca := (Free.cells_of hba).1
        have hfa := (Free.cells_of hba).2
        have hza := hba.size
        try simp only [World.size_alloc, World.size_setCell, World.size_drew] at hza
        (try (have : w.heap.size < wa.heap.size := (by omega)))
        (try (have : w.heap.size < wa.heap.size + 1 := (by omega)))
        (try (have : w.heap.size < wa.heap.size + 1 + 1 := (by omega)))
        (try (have : w.heap.size + 1 < wa.heap.size := (by omega)))
        (try (have : w.heap.size + 1 < wa.heap.size + 1 := (by omega)))
        (try (have : w.heap.size + 1 < wa.heap.size + 1 + 1 := (by omega)))
        (try (have : w.heap.size + 1 + 1 < wa.heap.size := (by omega)))
        (try (have : w.heap.size + 1 + 1 < wa.heap.size + 1 := (by omega)))
        (try (have : w.heap.size + 1 + 1 < wa.heap.size + 1 + 1 := (by omega)))
        (try (have : w.heap.size + 1 + 1 + 1 < wa.heap.size := (by omega)))
        (try (have : w.heap.size + 1 + 1 + 1 < wa.heap.size + 1 := (by omega)))
        (try (have : w.heap.size + 1 + 1 + 1 < wa.heap.size + 1 + 1 := (by omega)))
        (try (have : w.heap.size + 1 + 1 + 1 + 1 < wa.heap.size := (by omega)))
        (try (have : w.heap.size + 1 + 1 + 1 + 1 < wa.heap.size + 1 := (by omega)))
        (try (have : w.heap.size + 1 + 1 + 1 + 1 < wa.heap.size + 1 + 1 := (by omega)))
        (try (have : w1.heap.size < wa.heap.size := (by omega)))
        (try (have : w1.heap.size < wa.heap.size + 1 := (by omega)))
        (try (have : w1.heap.size < wa.heap.size + 1 + 1 := (by omega)))
        (try (have : w1.heap.size + 1 < wa.heap.size := (by omega)))
        (try (have : w1.heap.size + 1 < wa.heap.size + 1 := (by omega)))
        (try (have : w1.heap.size + 1 < wa.heap.size + 1 + 1 := (by omega)))
        (try (have : w1.heap.size + 1 + 1 < wa.heap.size := (by omega)))
        (try (have : w1.heap.size + 1 + 1 < wa.heap.size + 1 := (by omega)))
        (try (have : w1.heap.size + 1 + 1 < wa.heap.size + 1 + 1 := (by omega)))
        (try (have : w1.heap.size + 1 + 1 + 1 < wa.heap.size := (by omega)))
        (try (have : w1.heap.size + 1 + 1 + 1 < wa.heap.size + 1 := (by omega)))
        (try (have : w1.heap.size + 1 + 1 + 1 < wa.heap.size + 1 + 1 := (by omega)))
        (try (have : wr.heap.size < wa.heap.size := (by omega)))
        (try (have : wr.heap.size < wa.heap.size + 1 := (by omega)))
        (try (have : wr.heap.size < wa.heap.size + 1 + 1 := (by omega)))
        (try (have : wr.heap.size + 1 < wa.heap.size := (by omega)))
        (try (have : wr.heap.size + 1 < wa.heap.size + 1 := (by omega)))
        (try (have : wr.heap.size + 1 < wa.heap.size + 1 + 1 := (by omega)))
        (try (have : wr.heap.size + 1 + 1 < wa.heap.size := (by omega)))
        (try (have : wr.heap.size + 1 + 1 < wa.heap.size + 1 := (by omega)))
        (try (have : wr.heap.size + 1 + 1 < wa.heap.size + 1 + 1 := (by omega)))
        (try (have : wr.heap.size + 1 + 1 + 1 < wa.heap.size := (by omega)))
        (try (have : wr.heap.size + 1 + 1 + 1 < wa.heap.size + 1 := (by omega)))
        (try (have : wr.heap.size + 1 + 1 + 1 < wa.heap.size + 1 + 1 := (by omega)))
        simp only [List.drop_succ_cons, List.drop_zero, List.drop_nil]
        go_wp2
        refine Free.wp_region 13 #[0, 1, 3, 0, 8, 24, 56, 0, 128, 384, 896, 2047, 4095] (by kernel_rfl) (by kernel_rfl) ?_
        simp only [List.take_succ_cons, List.take_zero]
        iterate 13
          refine Free.E.q (by rfl) ?_
          apply Exists.intro
          refine ⟨fun u w' hc hb => ?_, ?_⟩
          go_simp
          (try go_ints); (try simp only [Ob.ite_imx, Ob.ite_imn]); first | exact rfl | (go_simp; exact rfl) | ((go_at_call 21; with_reducible exact Free.Calls.grow (HWk.out _))) | (simp only [↓IntWalk.iteOmega]; (try go_simp); exact rfl)
          simp only [Act.put, List.setIfInBounds_toArray, List.set_cons_zero, List.set_cons_succ, List.nil_append, List.cons_append]
        refine Free.E.nil (fun u wb S hF => ?_)
        have hbb := hF.below
        clear hF
        have hcb := (Free.cells_of hbb).1
        have hfb := (Free.cells_of hbb).2
        have hzb := hbb.size
        try simp only [World.size_alloc, World.size_setCell, World.size_drew] at hzb
        (try (have : w.heap.size < wb.heap.size := (by omega)))
        (try (have : w.heap.size < wb.heap.size + 1 := (by omega)))
        (try (have : w.heap.size < wb.heap.size + 1 + 1 := (by omega)))
        (try (have : w.heap.size + 1 < wb.heap.size := (by omega)))
        (try (have : w.heap.size + 1 < wb.heap.size + 1 := (by omega)))
        (try (have : w.heap.size + 1 < wb.heap.size + 1 + 1 := (by omega)))
        (try (have : w.heap.size + 1 + 1 < wb.heap.size := (by omega)))
        (try (have : w.heap.size + 1 + 1 < wb.heap.size + 1 := (by omega)))
        (try (have : w.heap.size + 1 + 1 < wb.heap.size + 1 + 1 := (by omega)))
        (try (have : w.heap.size + 1 + 1 + 1 < wb.heap.size := (by omega)))
        (try (have : w.heap.size + 1 + 1 + 1 < wb.heap.size + 1 := (by omega)))
        (try (have : w.heap.size + 1 + 1 + 1 < wb.heap.size + 1 + 1 := (by omega)))
        (try (have : w.heap.size + 1 + 1 + 1 + 1 < wb.heap.size := (by omega)))
        (try (have : w.heap.size + 1 + 1 + 1 + 1 < wb.heap.size + 1 := (by omega)))
        (try (have : w.heap.size + 1 + 1 + 1 + 1 < wb.heap.size + 1 + 1 := (by omega)))
        (try (have : w1.heap.size < wb.heap.size := (by omega)))
        (try (have : w1.heap.size < wb.heap.size + 1 := (by omega)))
        (try (have : w1.heap.size < wb.heap.size + 1 + 1 := (by omega)))
        (try (have : w1.heap.size + 1 < wb.heap.size := (by omega)))
        (try (have : w1.heap.size + 1 < wb.heap.size + 1 := (by omega)))
        (try (have : w1.heap.size + 1 < wb.heap.size + 1 + 1 := (by omega)))
        (try (have : w1.heap.size + 1 + 1 < wb.heap.size := (by omega)))
        (try (have : w1.heap.size + 1 + 1 < wb.heap.size + 1 := (by omega)))
        (try (have : w1.heap.size + 1 + 1 < wb.heap.size + 1 + 1 := (by omega)))
        (try (have : w1.heap.size + 1 + 1 + 1 < wb.heap.size := (by omega)))
        (try (have : w1.heap.size + 1 + 1 + 1 < wb.heap.size + 1 := (by omega)))
        (try (have : w1.heap.size + 1 + 1 + 1 < wb.heap.size + 1 + 1 := (by omega)))
        (try (have : wr.heap.size < wb.heap.size := (by omega)))
        (try (have : wr.heap.size < wb.heap.size + 1 := (by omega)))
        (try (have : wr.heap.size < wb.heap.size + 1 + 1 := (by omega)))
        (try (have : wr.heap.size + 1 < wb.heap.size := (by omega)))
        (try (have : wr.heap.size + 1 < wb.heap.size + 1 := (by omega)))
        (try (have : wr.heap.size + 1 < wb.heap.size + 1 + 1 := (by omega)))
        (try (have : wr.heap.size + 1 + 1 < wb.heap.size := (by omega)))
        (try (have : wr.heap.size + 1 + 1 < wb.heap.size + 1 := (by omega)))
        (try (have : wr.heap.size + 1 + 1 < wb.heap.size + 1 + 1 := (by omega)))
        (try (have : wr.heap.size + 1 + 1 + 1 < wb.heap.size := (by omega)))
        (try (have : wr.heap.size + 1 + 1 + 1 < wb.heap.size + 1 := (by omega)))
        (try (have : wr.heap.size + 1 + 1 + 1 < wb.heap.size + 1 + 1 := (by omega)))
        (try (have : wa.heap.size < wb.heap.size := (by omega)))
        (try (have : wa.heap.size < wb.heap.size + 1 := (by omega)))
        (try (have : wa.heap.size < wb.heap.size + 1 + 1 := (by omega)))
        (try (have : wa.heap.size + 1 < wb.heap.size := (by omega)))
        (try (have : wa.heap.size + 1 < wb.heap.size + 1 := (by omega)))
        (try (have : wa.heap.size + 1 < wb.heap.size + 1 + 1 := (by omega)))
        (try (have : wa.heap.size + 1 + 1 < wb.heap.size := (by omega)))
        (try (have : wa.heap.size + 1 + 1 < wb.heap.size + 1 := (by omega)))
        (try (have : wa.heap.size + 1 + 1 < wb.heap.size + 1 + 1 := (by omega)))
        (try (have : wa.heap.size + 1 + 1 + 1 < wb.heap.size := (by omega)))
        (try (have : wa.heap.size + 1 + 1 + 1 < wb.heap.size + 1 := (by omega)))
        (try (have : wa.heap.size + 1 + 1 + 1 < wb.heap.size + 1 + 1 := (by omega)))
        simp only [List.drop_succ_cons, List.drop_zero, List.drop_nil]
        have t1 := T1.out
        have t2 := T2.out
        go_wp2
        go_roundw
        case measure => simp [intOf]
        case rel => exact ⟨1, by omega, rfl, Lib.hid (by repeat' first | with_reducible exact Below.refl _ _ | with_reducible assumption | with_reducible refine Free.Grow.alloc ?_ _ | with_reducible refine Free.Grow.setCell ?_ (by first | omega | (simp; done) | (simp; omega)) _ | with_reducible refine Free.Grow.drew ?_ | with_reducible refine Free.Grow.trans ?_ (by assumption)), Lib.hid (by repeat' first | with_reducible assumption | with_reducible exact Free.blk_new _ (by first | rfl | (simp; done)) | with_reducible refine Free.blk_alloc_old ?_ | with_reducible refine Free.blk_drew ?_ | with_reducible refine Free.blk_setCell_far ?_ (by first | omega | (simp; done) | (simp; omega)) _ | with_reducible apply Free.blk_setCell_to | (show Array.setIfInBounds _ _ _ = _; first | exact rfl | (simp; done)) | with_reducible refine Free.blk_below ?_ (by assumption)), Lib.hid (by repeat' first | with_reducible assumption | with_reducible exact Free.blk_new _ (by first | rfl | (simp; done)) | with_reducible refine Free.blk_alloc_old ?_ | with_reducible refine Free.blk_drew ?_ | with_reducible refine Free.blk_setCell_far ?_ (by first | omega | (simp; done) | (simp; omega)) _ | with_reducible apply Free.blk_setCell_to | (show Array.setIfInBounds _ _ _ = _; first | exact rfl | (simp; done)) | with_reducible refine Free.blk_below ?_ (by assumption)), Lib.hid (by repeat' first | with_reducible assumption | with_reducible exact Free.blk_new _ (by first | rfl | (simp; done)) | with_reducible refine Free.blk_alloc_old ?_ | with_reducible refine Free.blk_drew ?_ | with_reducible refine Free.blk_setCell_far ?_ (by first | omega | (simp; done) | (simp; omega)) _ | with_reducible apply Free.blk_setCell_to | (show Array.setIfInBounds _ _ _ = _; first | exact rfl | (simp; done)) | with_reducible refine Free.blk_below ?_ (by assumption)), Lib.hid (by simp only [ps_1, EL.out, EH.out, Int.add_zero, Int.zero_add]; repeat' first | with_reducible assumption | with_reducible exact Free.blk_new _ (by first | rfl | (simp; done)) | with_reducible refine Free.blk_alloc_old ?_ | with_reducible refine Free.blk_drew ?_ | with_reducible refine Free.blk_setCell_far ?_ (by first | omega | (simp; done) | (simp; omega)) _ | with_reducible apply Free.blk_setCell_to | (show Array.setIfInBounds _ _ _ = _; first | exact rfl | (simp; done)) | with_reducible refine Free.blk_below ?_ (by assumption))⟩
    · have sA := sq_bd (n := y - l1) (M := 500000000) (by omega) (by omega)
      have sB := sq_bd (n := y - h1) (M := 500000000) (by omega) (by omega)
      obtain ⟨sA0, sA1⟩ := sA
      obtain ⟨sB0, sB1⟩ := sB
      have HWk := Lib.hid (HW.out y l1 h1)
      have eH : rHi l1 h1 y = imx ((y - l1) * (y - l1)) ((y - h1) * (y - h1)) := rfl
      have eL : rLo l1 h1 y = if l1 ≤ y ∧ y ≤ h1 then 0 else imn ((y - l1) * (y - l1)) ((y - h1) * (y - h1)) := rfl
      by_cases hw : l1 ≤ y ∧ y ≤ h1
      all_goals rcases tri ((y - l1) * (y - l1)) ((y - h1) * (y - h1)) with ⟨t1, t2⟩ | ⟨t1, t2⟩ | ⟨t1, t2⟩
      all_goals
        first
        | (rw [show rngB y l1 h1 = true from rngB_true.2 hw] at HWk; rw [if_pos hw] at eL)
        | (rw [show rngB y l1 h1 = false from rngB_false.2 hw] at HWk; rw [if_neg hw] at eL)
        unfold imx at eH
        try unfold imn at eL
        first | rw [if_pos t2] at eH | rw [if_neg t2] at eH
        first | rw [if_pos t1] at eL | rw [if_neg t1] at eL | skip
        have EL := Lib.hid eL
        have EH := Lib.hid eH
        have T1 := Lib.hid t1
        have T2 := Lib.hid t2
        clear eL eH t1 t2 hw
        go_wp2
        refine Free.wp_region 18 #[0, 1, 3, 0, 8, 24, 56, 127, 0, 256, 768, 0, 2048, 6144, 14336, 32512, 255, 131071] (by kernel_rfl) (by kernel_rfl) ?_
        simp only [List.take_succ_cons, List.take_zero]
        iterate 18
          refine Free.E.q (by rfl) ?_
          apply Exists.intro
          refine ⟨fun u w' hc hb => ?_, ?_⟩
          go_simp
          (try go_ints); (try simp only [Ob.ite_imx, Ob.ite_imn]); first | exact rfl | (go_simp; exact rfl) | (simp only [↓IntWalk.iteOmega]; (try go_simp); exact rfl)
          simp only [Act.put, List.setIfInBounds_toArray, List.set_cons_zero, List.set_cons_succ, List.nil_append, List.cons_append]
        refine Free.E.nil (fun u wa S hF => ?_)
        have hba := hF.below
        clear hF
        have hca := (Free.cells_of hba).1
        have hfa := (Free.cells_of hba).2
        have hza := hba.size
        try simp only [World.size_alloc, World.size_setCell, World.size_drew] at hza
        (try (have : w.heap.size < wa.heap.size := (by omega)))
        (try (have : w.heap.size < wa.heap.size + 1 := (by omega)))
        (try (have : w.heap.size < wa.heap.size + 1 + 1 := (by omega)))
        (try (have : w.heap.size + 1 < wa.heap.size := (by omega)))
        (try (have : w.heap.size + 1 < wa.heap.size + 1 := (by omega)))
        (try (have : w.heap.size + 1 < wa.heap.size + 1 + 1 := (by omega)))
        (try (have : w.heap.size + 1 + 1 < wa.heap.size := (by omega)))
        (try (have : w.heap.size + 1 + 1 < wa.heap.size + 1 := (by omega)))
        (try (have : w.heap.size + 1 + 1 < wa.heap.size + 1 + 1 := (by omega)))
        (try (have : w.heap.size + 1 + 1 + 1 < wa.heap.size := (by omega)))
        (try (have : w.heap.size + 1 + 1 + 1 < wa.heap.size + 1 := (by omega)))
        (try (have : w.heap.size + 1 + 1 + 1 < wa.heap.size + 1 + 1 := (by omega)))
        (try (have : w.heap.size + 1 + 1 + 1 + 1 < wa.heap.size := (by omega)))
        (try (have : w.heap.size + 1 + 1 + 1 + 1 < wa.heap.size + 1 := (by omega)))
        (try (have : w.heap.size + 1 + 1 + 1 + 1 < wa.heap.size + 1 + 1 := (by omega)))
        (try (have : w1.heap.size < wa.heap.size := (by omega)))
        (try (have : w1.heap.size < wa.heap.size + 1 := (by omega)))
        (try (have : w1.heap.size < wa.heap.size + 1 + 1 := (by omega)))
        (try (have : w1.heap.size + 1 < wa.heap.size := (by omega)))
        (try (have : w1.heap.size + 1 < wa.heap.size + 1 := (by omega)))
        (try (have : w1.heap.size + 1 < wa.heap.size + 1 + 1 := (by omega)))
        (try (have : w1.heap.size + 1 + 1 < wa.heap.size := (by omega)))
        (try (have : w1.heap.size + 1 + 1 < wa.heap.size + 1 := (by omega)))
        (try (have : w1.heap.size + 1 + 1 < wa.heap.size + 1 + 1 := (by omega)))
        (try (have : w1.heap.size + 1 + 1 + 1 < wa.heap.size := (by omega)))
        (try (have : w1.heap.size + 1 + 1 + 1 < wa.heap.size + 1 := (by omega)))
        (try (have : w1.heap.size + 1 + 1 + 1 < wa.heap.size + 1 + 1 := (by omega)))
        (try (have : wr.heap.size < wa.heap.size := (by omega)))
        (try (have : wr.heap.size < wa.heap.size + 1 := (by omega)))
        (try (have : wr.heap.size < wa.heap.size + 1 + 1 := (by omega)))
        (try (have : wr.heap.size + 1 < wa.heap.size := (by omega)))
        (try (have : wr.heap.size + 1 < wa.heap.size + 1 := (by omega)))
        (try (have : wr.heap.size + 1 < wa.heap.size + 1 + 1 := (by omega)))
        (try (have : wr.heap.size + 1 + 1 < wa.heap.size := (by omega)))
        (try (have : wr.heap.size + 1 + 1 < wa.heap.size + 1 := (by omega)))
        (try (have : wr.heap.size + 1 + 1 < wa.heap.size + 1 + 1 := (by omega)))
        (try (have : wr.heap.size + 1 + 1 + 1 < wa.heap.size := (by omega)))
        (try (have : wr.heap.size + 1 + 1 + 1 < wa.heap.size + 1 := (by omega)))
        (try (have : wr.heap.size + 1 + 1 + 1 < wa.heap.size + 1 + 1 := (by omega)))
        simp only [List.drop_succ_cons, List.drop_zero, List.drop_nil]
        go_wp2
        refine Free.wp_region 13 #[0, 1, 3, 0, 8, 24, 56, 0, 128, 384, 896, 2047, 4095] (by kernel_rfl) (by kernel_rfl) ?_
        simp only [List.take_succ_cons, List.take_zero]
        iterate 13
          refine Free.E.q (by rfl) ?_
          apply Exists.intro
          refine ⟨fun u w' hc hb => ?_, ?_⟩
          go_simp
          (try go_ints); (try simp only [Ob.ite_imx, Ob.ite_imn]); first | exact rfl | (go_simp; exact rfl) | ((go_at_call 21; with_reducible exact Free.Calls.grow (HWk.out _))) | (simp only [↓IntWalk.iteOmega]; (try go_simp); exact rfl)
          simp only [Act.put, List.setIfInBounds_toArray, List.set_cons_zero, List.set_cons_succ, List.nil_append, List.cons_append]
        refine Free.E.nil (fun u wb S hF => ?_)
        have hbb := hF.below
        clear hF
        have hcb := (Free.cells_of hbb).1
        have hfb := (Free.cells_of hbb).2
        have hzb := hbb.size
        try simp only [World.size_alloc, World.size_setCell, World.size_drew] at hzb
        (try (have : w.heap.size < wb.heap.size := (by omega)))
        (try (have : w.heap.size < wb.heap.size + 1 := (by omega)))
        (try (have : w.heap.size < wb.heap.size + 1 + 1 := (by omega)))
        (try (have : w.heap.size + 1 < wb.heap.size := (by omega)))
        (try (have : w.heap.size + 1 < wb.heap.size + 1 := (by omega)))
        (try (have : w.heap.size + 1 < wb.heap.size + 1 + 1 := (by omega)))
        (try (have : w.heap.size + 1 + 1 < wb.heap.size := (by omega)))
        (try (have : w.heap.size + 1 + 1 < wb.heap.size + 1 := (by omega)))
        (try (have : w.heap.size + 1 + 1 < wb.heap.size + 1 + 1 := (by omega)))
        (try (have : w.heap.size + 1 + 1 + 1 < wb.heap.size := (by omega)))
        (try (have : w.heap.size + 1 + 1 + 1 < wb.heap.size + 1 := (by omega)))
        (try (have : w.heap.size + 1 + 1 + 1 < wb.heap.size + 1 + 1 := (by omega)))
        (try (have : w.heap.size + 1 + 1 + 1 + 1 < wb.heap.size := (by omega)))
        (try (have : w.heap.size + 1 + 1 + 1 + 1 < wb.heap.size + 1 := (by omega)))
        (try (have : w.heap.size + 1 + 1 + 1 + 1 < wb.heap.size + 1 + 1 := (by omega)))
        (try (have : w1.heap.size < wb.heap.size := (by omega)))
        (try (have : w1.heap.size < wb.heap.size + 1 := (by omega)))
        (try (have : w1.heap.size < wb.heap.size + 1 + 1 := (by omega)))
        (try (have : w1.heap.size + 1 < wb.heap.size := (by omega)))
        (try (have : w1.heap.size + 1 < wb.heap.size + 1 := (by omega)))
        (try (have : w1.heap.size + 1 < wb.heap.size + 1 + 1 := (by omega)))
        (try (have : w1.heap.size + 1 + 1 < wb.heap.size := (by omega)))
        (try (have : w1.heap.size + 1 + 1 < wb.heap.size + 1 := (by omega)))
        (try (have : w1.heap.size + 1 + 1 < wb.heap.size + 1 + 1 := (by omega)))
        (try (have : w1.heap.size + 1 + 1 + 1 < wb.heap.size := (by omega)))
        (try (have : w1.heap.size + 1 + 1 + 1 < wb.heap.size + 1 := (by omega)))
        (try (have : w1.heap.size + 1 + 1 + 1 < wb.heap.size + 1 + 1 := (by omega)))
        (try (have : wr.heap.size < wb.heap.size := (by omega)))
        (try (have : wr.heap.size < wb.heap.size + 1 := (by omega)))
        (try (have : wr.heap.size < wb.heap.size + 1 + 1 := (by omega)))
        (try (have : wr.heap.size + 1 < wb.heap.size := (by omega)))
        (try (have : wr.heap.size + 1 < wb.heap.size + 1 := (by omega)))
        (try (have : wr.heap.size + 1 < wb.heap.size + 1 + 1 := (by omega)))
        (try (have : wr.heap.size + 1 + 1 < wb.heap.size := (by omega)))
        (try (have : wr.heap.size + 1 + 1 < wb.heap.size + 1 := (by omega)))
        (try (have : wr.heap.size + 1 + 1 < wb.heap.size + 1 + 1 := (by omega)))
        (try (have : wr.heap.size + 1 + 1 + 1 < wb.heap.size := (by omega)))
        (try (have : wr.heap.size + 1 + 1 + 1 < wb.heap.size + 1 := (by omega)))
        (try (have : wr.heap.size + 1 + 1 + 1 < wb.heap.size + 1 + 1 := (by omega)))
        (try (have : wa.heap.size < wb.heap.size := (by omega)))
        (try (have : wa.heap.size < wb.heap.size + 1 := (by omega)))
        (try (have : wa.heap.size < wb.heap.size + 1 + 1 := (by omega)))
        (try (have : wa.heap.size + 1 < wb.heap.size := (by omega)))
        (try (have : wa.heap.size + 1 < wb.heap.size + 1 := (by omega)))
        (try (have : wa.heap.size + 1 < wb.heap.size + 1 + 1 := (by omega)))
        (try (have : wa.heap.size + 1 + 1 < wb.heap.size := (by omega)))
        (try (have : wa.heap.size + 1 + 1 < wb.heap.size + 1 := (by omega)))
        (try (have : wa.heap.size + 1 + 1 < wb.heap.size + 1 + 1 := (by omega)))
        (try (have : wa.heap.size + 1 + 1 + 1 < wb.heap.size := (by omega)))
        (try (have : wa.heap.size + 1 + 1 + 1 < wb.heap.size + 1 := (by omega)))
        (try (have : wa.heap.size + 1 + 1 + 1 < wb.heap.size + 1 + 1 := (by omega)))
        simp only [List.drop_succ_cons, List.drop_zero, List.drop_nil]
        have t1 := T1.out
        have t2 := T2.out
        go_wp2
        go_roundw
        case measure => simp [intOf]
        case rel => exact ⟨2, by omega, rfl, Lib.hid (by repeat' first | with_reducible exact Below.refl _ _ | with_reducible assumption | with_reducible refine Free.Grow.alloc ?_ _ | with_reducible refine Free.Grow.setCell ?_ (by first | omega | (simp; done) | (simp; omega)) _ | with_reducible refine Free.Grow.drew ?_ | with_reducible refine Free.Grow.trans ?_ (by assumption)), Lib.hid (by repeat' first | with_reducible assumption | with_reducible exact Free.blk_new _ (by first | rfl | (simp; done)) | with_reducible refine Free.blk_alloc_old ?_ | with_reducible refine Free.blk_drew ?_ | with_reducible refine Free.blk_setCell_far ?_ (by first | omega | (simp; done) | (simp; omega)) _ | with_reducible apply Free.blk_setCell_to | (show Array.setIfInBounds _ _ _ = _; first | exact rfl | (simp; done)) | with_reducible refine Free.blk_below ?_ (by assumption)), Lib.hid (by repeat' first | with_reducible assumption | with_reducible exact Free.blk_new _ (by first | rfl | (simp; done)) | with_reducible refine Free.blk_alloc_old ?_ | with_reducible refine Free.blk_drew ?_ | with_reducible refine Free.blk_setCell_far ?_ (by first | omega | (simp; done) | (simp; omega)) _ | with_reducible apply Free.blk_setCell_to | (show Array.setIfInBounds _ _ _ = _; first | exact rfl | (simp; done)) | with_reducible refine Free.blk_below ?_ (by assumption)), Lib.hid (by repeat' first | with_reducible assumption | with_reducible exact Free.blk_new _ (by first | rfl | (simp; done)) | with_reducible refine Free.blk_alloc_old ?_ | with_reducible refine Free.blk_drew ?_ | with_reducible refine Free.blk_setCell_far ?_ (by first | omega | (simp; done) | (simp; omega)) _ | with_reducible apply Free.blk_setCell_to | (show Array.setIfInBounds _ _ _ = _; first | exact rfl | (simp; done)) | with_reducible refine Free.blk_below ?_ (by assumption)), Lib.hid (by simp only [ps_2, EL.out, EH.out, Int.add_zero, Int.zero_add]; repeat' first | with_reducible assumption | with_reducible exact Free.blk_new _ (by first | rfl | (simp; done)) | with_reducible refine Free.blk_alloc_old ?_ | with_reducible refine Free.blk_drew ?_ | with_reducible refine Free.blk_setCell_far ?_ (by first | omega | (simp; done) | (simp; omega)) _ | with_reducible apply Free.blk_setCell_to | (show Array.setIfInBounds _ _ _ = _; first | exact rfl | (simp; done)) | with_reducible refine Free.blk_below ?_ (by assumption))⟩
    · have sA := sq_bd (n := z - l2) (M := 500000000) (by omega) (by omega)
      have sB := sq_bd (n := z - h2) (M := 500000000) (by omega) (by omega)
      obtain ⟨sA0, sA1⟩ := sA
      obtain ⟨sB0, sB1⟩ := sB
      have HWk := Lib.hid (HW.out z l2 h2)
      have eH : rHi l2 h2 z = imx ((z - l2) * (z - l2)) ((z - h2) * (z - h2)) := rfl
      have eL : rLo l2 h2 z = if l2 ≤ z ∧ z ≤ h2 then 0 else imn ((z - l2) * (z - l2)) ((z - h2) * (z - h2)) := rfl
      by_cases hw : l2 ≤ z ∧ z ≤ h2
      all_goals rcases tri ((z - l2) * (z - l2)) ((z - h2) * (z - h2)) with ⟨t1, t2⟩ | ⟨t1, t2⟩ | ⟨t1, t2⟩
      all_goals
        first
        | (rw [show rngB z l2 h2 = true from rngB_true.2 hw] at HWk; rw [if_pos hw] at eL)
        | (rw [show rngB z l2 h2 = false from rngB_false.2 hw] at HWk; rw [if_neg hw] at eL)
        unfold imx at eH
        try unfold imn at eL
        first | rw [if_pos t2] at eH | rw [if_neg t2] at eH
        first | rw [if_pos t1] at eL | rw [if_neg t1] at eL | skip
        have EL := Lib.hid eL
        have EH := Lib.hid eH
        have T1 := Lib.hid t1
        have T2 := Lib.hid t2
        clear eL eH t1 t2 hw
        go_wp2
        refine Free.wp_region 18 #[0, 1, 3, 0, 8, 24, 56, 127, 0, 256, 768, 0, 2048, 6144, 14336, 32512, 255, 131071] (by kernel_rfl) (by kernel_rfl) ?_
        simp only [List.take_succ_cons, List.take_zero]
        iterate 18
          refine Free.E.q (by rfl) ?_
          apply Exists.intro
          refine ⟨fun u w' hc hb => ?_, ?_⟩
          go_simp
          (try go_ints); (try simp only [Ob.ite_imx, Ob.ite_imn]); first | exact rfl | (go_simp; exact rfl) | (simp only [↓IntWalk.iteOmega]; (try go_simp); exact rfl)
          simp only [Act.put, List.setIfInBounds_toArray, List.set_cons_zero, List.set_cons_succ, List.nil_append, List.cons_append]
        refine Free.E.nil (fun u wa S hF => ?_)
        have hba := hF.below
        clear hF
        have hca := (Free.cells_of hba).1
        have hfa := (Free.cells_of hba).2
        have hza := hba.size
        try simp only [World.size_alloc, World.size_setCell, World.size_drew] at hza
        (try (have : w.heap.size < wa.heap.size := (by omega)))
        (try (have : w.heap.size < wa.heap.size + 1 := (by omega)))
        (try (have : w.heap.size < wa.heap.size + 1 + 1 := (by omega)))
        (try (have : w.heap.size + 1 < wa.heap.size := (by omega)))
        (try (have : w.heap.size + 1 < wa.heap.size + 1 := (by omega)))
        (try (have : w.heap.size + 1 < wa.heap.size + 1 + 1 := (by omega)))
        (try (have : w.heap.size + 1 + 1 < wa.heap.size := (by omega)))
        (try (have : w.heap.size + 1 + 1 < wa.heap.size + 1 := (by omega)))
        (try (have : w.heap.size + 1 + 1 < wa.heap.size + 1 + 1 := (by omega)))
        (try (have : w.heap.size + 1 + 1 + 1 < wa.heap.size := (by omega)))
        (try (have : w.heap.size + 1 + 1 + 1 < wa.heap.size + 1 := (by omega)))
        (try (have : w.heap.size + 1 + 1 + 1 < wa.heap.size + 1 + 1 := (by omega)))
        (try (have : w.heap.size + 1 + 1 + 1 + 1 < wa.heap.size := (by omega)))
        (try (have : w.heap.size + 1 + 1 + 1 + 1 < wa.heap.size + 1 := (by omega)))
        (try (have : w.heap.size + 1 + 1 + 1 + 1 < wa.heap.size + 1 + 1 := (by omega)))
        (try (have : w1.heap.size < wa.heap.size := (by omega)))
        (try (have : w1.heap.size < wa.heap.size + 1 := (by omega)))
        (try (have : w1.heap.size < wa.heap.size + 1 + 1 := (by omega)))
        (try (have : w1.heap.size + 1 < wa.heap.size := (by omega)))
        (try (have : w1.heap.size + 1 < wa.heap.size + 1 := (by omega)))
        (try (have : w1.heap.size + 1 < wa.heap.size + 1 + 1 := (by omega)))
        (try (have : w1.heap.size + 1 + 1 < wa.heap.size := (by omega)))
        (try (have : w1.heap.size + 1 + 1 < wa.heap.size + 1 := (by omega)))
        (try (have : w1.heap.size + 1 + 1 < wa.heap.size + 1 + 1 := (by omega)))
        (try (have : w1.heap.size + 1 + 1 + 1 < wa.heap.size := (by omega)))
        (try (have : w1.heap.size + 1 + 1 + 1 < wa.heap.size + 1 := (by omega)))
        (try (have : w1.heap.size + 1 + 1 + 1 < wa.heap.size + 1 + 1 := (by omega)))
        (try (have : wr.heap.size < wa.heap.size := (by omega)))
        (try (have : wr.heap.size < wa.heap.size + 1 := (by omega)))
        (try (have : wr.heap.size < wa.heap.size + 1 + 1 := (by omega)))
        (try (have : wr.heap.size + 1 < wa.heap.size := (by omega)))
        (try (have : wr.heap.size + 1 < wa.heap.size + 1 := (by omega)))
        (try (have : wr.heap.size + 1 < wa.heap.size + 1 + 1 := (by omega)))
        (try (have : wr.heap.size + 1 + 1 < wa.heap.size := (by omega)))
        (try (have : wr.heap.size + 1 + 1 < wa.heap.size + 1 := (by omega)))
        (try (have : wr.heap.size + 1 + 1 < wa.heap.size + 1 + 1 := (by omega)))
        (try (have : wr.heap.size + 1 + 1 + 1 < wa.heap.size := (by omega)))
        (try (have : wr.heap.size + 1 + 1 + 1 < wa.heap.size + 1 := (by omega)))
        (try (have : wr.heap.size + 1 + 1 + 1 < wa.heap.size + 1 + 1 := (by omega)))
        simp only [List.drop_succ_cons, List.drop_zero, List.drop_nil]
        go_wp2
        refine Free.wp_region 13 #[0, 1, 3, 0, 8, 24, 56, 0, 128, 384, 896, 2047, 4095] (by kernel_rfl) (by kernel_rfl) ?_
        simp only [List.take_succ_cons, List.take_zero]
        iterate 13
          refine Free.E.q (by rfl) ?_
          apply Exists.intro
          refine ⟨fun u w' hc hb => ?_, ?_⟩
          go_simp
          (try go_ints); (try simp only [Ob.ite_imx, Ob.ite_imn]); first | exact rfl | (go_simp; exact rfl) | ((go_at_call 21; with_reducible exact Free.Calls.grow (HWk.out _))) | (simp only [↓IntWalk.iteOmega]; (try go_simp); exact rfl)
          simp only [Act.put, List.setIfInBounds_toArray, List.set_cons_zero, List.set_cons_succ, List.nil_append, List.cons_append]
        refine Free.E.nil (fun u wb S hF => ?_)
        have hbb := hF.below
        clear hF
        have hcb := (Free.cells_of hbb).1
        have hfb := (Free.cells_of hbb).2
        have hzb := hbb.size
        try simp only [World.size_alloc, World.size_setCell, World.size_drew] at hzb
        (try (have : w.heap.size < wb.heap.size := (by omega)))
        (try (have : w.heap.size < wb.heap.size + 1 := (by omega)))
        (try (have : w.heap.size < wb.heap.size + 1 + 1 := (by omega)))
        (try (have : w.heap.size + 1 < wb.heap.size := (by omega)))
        (try (have : w.heap.size + 1 < wb.heap.size + 1 := (by omega)))
        (try (have : w.heap.size + 1 < wb.heap.size + 1 + 1 := (by omega)))
        (try (have : w.heap.size + 1 + 1 < wb.heap.size := (by omega)))
        (try (have : w.heap.size + 1 + 1 < wb.heap.size + 1 := (by omega)))
        (try (have : w.heap.size + 1 + 1 < wb.heap.size + 1 + 1 := (by omega)))
        (try (have : w.heap.size + 1 + 1 + 1 < wb.heap.size := (by omega)))
        (try (have : w.heap.size + 1 + 1 + 1 < wb.heap.size + 1 := (by omega)))
        (try (have : w.heap.size + 1 + 1 + 1 < wb.heap.size + 1 + 1 := (by omega)))
        (try (have : w.heap.size + 1 + 1 + 1 + 1 < wb.heap.size := (by omega)))
        (try (have : w.heap.size + 1 + 1 + 1 + 1 < wb.heap.size + 1 := (by omega)))
        (try (have : w.heap.size + 1 + 1 + 1 + 1 < wb.heap.size + 1 + 1 := (by omega)))
        (try (have : w1.heap.size < wb.heap.size := (by omega)))
        (try (have : w1.heap.size < wb.heap.size + 1 := (by omega)))
        (try (have : w1.heap.size < wb.heap.size + 1 + 1 := (by omega)))
        (try (have : w1.heap.size + 1 < wb.heap.size := (by omega)))
        (try (have : w1.heap.size + 1 < wb.heap.size + 1 := (by omega)))
        (try (have : w1.heap.size + 1 < wb.heap.size + 1 + 1 := (by omega)))
        (try (have : w1.heap.size + 1 + 1 < wb.heap.size := (by omega)))
        (try (have : w1.heap.size + 1 + 1 < wb.heap.size + 1 := (by omega)))
        (try (have : w1.heap.size + 1 + 1 < wb.heap.size + 1 + 1 := (by omega)))
        (try (have : w1.heap.size + 1 + 1 + 1 < wb.heap.size := (by omega)))
        (try (have : w1.heap.size + 1 + 1 + 1 < wb.heap.size + 1 := (by omega)))
        (try (have : w1.heap.size + 1 + 1 + 1 < wb.heap.size + 1 + 1 := (by omega)))
        (try (have : wr.heap.size < wb.heap.size := (by omega)))
        (try (have : wr.heap.size < wb.heap.size + 1 := (by omega)))
        (try (have : wr.heap.size < wb.heap.size + 1 + 1 := (by omega)))
        (try (have : wr.heap.size + 1 < wb.heap.size := (by omega)))
        (try (have : wr.heap.size + 1 < wb.heap.size + 1 := (by omega)))
        (try (have : wr.heap.size + 1 < wb.heap.size + 1 + 1 := (by omega)))
        (try (have : wr.heap.size + 1 + 1 < wb.heap.size := (by omega)))
        (try (have : wr.heap.size + 1 + 1 < wb.heap.size + 1 := (by omega)))
        (try (have : wr.heap.size + 1 + 1 < wb.heap.size + 1 + 1 := (by omega)))
        (try (have : wr.heap.size + 1 + 1 + 1 < wb.heap.size := (by omega)))
        (try (have : wr.heap.size + 1 + 1 + 1 < wb.heap.size + 1 := (by omega)))
        (try (have : wr.heap.size + 1 + 1 + 1 < wb.heap.size + 1 + 1 := (by omega)))
        (try (have : wa.heap.size < wb.heap.size := (by omega)))
        (try (have : wa.heap.size < wb.heap.size + 1 := (by omega)))
        (try (have : wa.heap.size < wb.heap.size + 1 + 1 := (by omega)))
        (try (have : wa.heap.size + 1 < wb.heap.size := (by omega)))
        (try (have : wa.heap.size + 1 < wb.heap.size + 1 := (by omega)))
        (try (have : wa.heap.size + 1 < wb.heap.size + 1 + 1 := (by omega)))
        (try (have : wa.heap.size + 1 + 1 < wb.heap.size := (by omega)))
        (try (have : wa.heap.size + 1 + 1 < wb.heap.size + 1 := (by omega)))
        (try (have : wa.heap.size + 1 + 1 < wb.heap.size + 1 + 1 := (by omega)))
        (try (have : wa.heap.size + 1 + 1 + 1 < wb.heap.size := (by omega)))
        (try (have : wa.heap.size + 1 + 1 + 1 < wb.heap.size + 1 := (by omega)))
        (try (have : wa.heap.size + 1 + 1 + 1 < wb.heap.size + 1 + 1 := (by omega)))
        simp only [List.drop_succ_cons, List.drop_zero, List.drop_nil]
        have t1 := T1.out
        have t2 := T2.out
        go_wp2
        go_roundw
        case measure => simp [intOf]
        case rel => exact ⟨3, by omega, rfl, Lib.hid (by repeat' first | with_reducible exact Below.refl _ _ | with_reducible assumption | with_reducible refine Free.Grow.alloc ?_ _ | with_reducible refine Free.Grow.setCell ?_ (by first | omega | (simp; done) | (simp; omega)) _ | with_reducible refine Free.Grow.drew ?_ | with_reducible refine Free.Grow.trans ?_ (by assumption)), Lib.hid (by repeat' first | with_reducible assumption | with_reducible exact Free.blk_new _ (by first | rfl | (simp; done)) | with_reducible refine Free.blk_alloc_old ?_ | with_reducible refine Free.blk_drew ?_ | with_reducible refine Free.blk_setCell_far ?_ (by first | omega | (simp; done) | (simp; omega)) _ | with_reducible apply Free.blk_setCell_to | (show Array.setIfInBounds _ _ _ = _; first | exact rfl | (simp; done)) | with_reducible refine Free.blk_below ?_ (by assumption)), Lib.hid (by repeat' first | with_reducible assumption | with_reducible exact Free.blk_new _ (by first | rfl | (simp; done)) | with_reducible refine Free.blk_alloc_old ?_ | with_reducible refine Free.blk_drew ?_ | with_reducible refine Free.blk_setCell_far ?_ (by first | omega | (simp; done) | (simp; omega)) _ | with_reducible apply Free.blk_setCell_to | (show Array.setIfInBounds _ _ _ = _; first | exact rfl | (simp; done)) | with_reducible refine Free.blk_below ?_ (by assumption)), Lib.hid (by repeat' first | with_reducible assumption | with_reducible exact Free.blk_new _ (by first | rfl | (simp; done)) | with_reducible refine Free.blk_alloc_old ?_ | with_reducible refine Free.blk_drew ?_ | with_reducible refine Free.blk_setCell_far ?_ (by first | omega | (simp; done) | (simp; omega)) _ | with_reducible apply Free.blk_setCell_to | (show Array.setIfInBounds _ _ _ = _; first | exact rfl | (simp; done)) | with_reducible refine Free.blk_below ?_ (by assumption)), Lib.hid (by simp only [ps_3, EL.out, EH.out, Int.add_zero, Int.zero_add]; repeat' first | with_reducible assumption | with_reducible exact Free.blk_new _ (by first | rfl | (simp; done)) | with_reducible refine Free.blk_alloc_old ?_ | with_reducible refine Free.blk_drew ?_ | with_reducible refine Free.blk_setCell_far ?_ (by first | omega | (simp; done) | (simp; omega)) _ | with_reducible apply Free.blk_setCell_to | (show Array.setIfInBounds _ _ _ = _; first | exact rfl | (simp; done)) | with_reducible refine Free.blk_below ?_ (by assumption))⟩
    · go_wp2
      refine bodyPost_ret (v := .agg #[.int .i64 (rLo l0 h0 x + rLo l1 h1 y + rLo l2 h2 z), .int .i64 (rHi l0 h0 x + rHi l1 h1 y + rHi l2 h2 z)]) (by simp [results, Try.results41, go_sem, *]) rfl ?_
      exact HR.out _ (by repeat' first | with_reducible exact Below.refl _ _ | with_reducible assumption | with_reducible refine Free.Grow.alloc ?_ _ | with_reducible refine Free.Grow.setCell ?_ (by first | omega | (simp; done) | (simp; omega)) _ | with_reducible refine Free.Grow.drew ?_ | with_reducible refine Free.Grow.trans ?_ (by assumption))
end Go.Proofs.Ytaoennekamlfeaa
