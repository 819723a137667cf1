/- Chapter 2: squares of the program. -/
import Derived.Test.YthhhkjbhhjcjoaaGreatDoor02g
set_option linter.unusedSimpArgs false
set_option linter.unusedVariables false
namespace Go.Proofs.YthhhkjbhhjcjoaaGreatDoor
open Go.RowKit Go.Ob

set_option maxRecDepth 100000 in
set_option maxHeartbeats 4000000 in
theorem squares_any (q : Bx) (x y z : Int) (w : World) (hq : q.Ok) (hx0 : -200000000 ≤ x) (hx1 : x ≤ 200000000) (hy0 : -200000000 ≤ y) (hy1 : y ≤ 200000000) (hz0 : -200000000 ≤ z) (hz1 : z ≤ 200000000) :
    Calls Tryz.prog 75 #[bxV q, v3 x y z] w fun e w' => e = .returned (.agg #[.int .i64 (sqLo q x y z), .int .i64 (sqHi q x y z)]) ∧ Below w.heap.size w w' := by
  obtain ⟨l0, h0, l1, h1, l2, h2⟩ := q
  obtain ⟨q1, q2, q3, q4, q5, q6, q7, q8, q9⟩ := hq
  simp only at *
  have n0 := near_bd q1 q2 q3 hx0 hx1
  have n1 := near_bd q4 q5 q6 hy0 hy1
  have n2 := near_bd q7 q8 q9 hz0 hz1
  have f0 := far_bd q1 q2 q3 hx0 hx1
  have f1 := far_bd q4 q5 q6 hy0 hy1
  have f2 := far_bd q7 q8 q9 hz0 hz1
  unfold near at n0 n1 n2
  unfold far at f0 f1 f2
  obtain ⟨n00, n01⟩ := n0
  obtain ⟨n10, n11⟩ := n1
  obtain ⟨n20, n21⟩ := n2
  obtain ⟨f00, f01⟩ := f0
  obtain ⟨f10, f11⟩ := f1
  obtain ⟨f20, f21⟩ := f2
  go_enter Tryz.func75, Tryz.ntmps75
  go_wp2
  obtain ⟨W0, hW0⟩ : ∃ W0 : World, W0 = ((w.alloc (.cells #[.int .i64 l0, .int .i64 h0, .int .i64 l1, .int .i64 h1, .int .i64 l2, .int .i64 h2] 132)).alloc (.cells #[.int .i64 x, .int .i64 y, .int .i64 z] 140)).alloc (.cells #[.int .i64 0, .int .i64 0] 60) := ⟨_, rfl⟩
  have HW := Lib.hid hW0
  clear hW0
  go_loopw [6, 7, 8, 9, 11] (fun _ _ _ _ i wr => ∃ k : Nat, k ≤ 3 ∧ i = .int .i64 k ∧
      wr.cell? ⟨w.heap.size + 1 + 1 + 1, 0, none⟩ = some (.int .i64 (ps (near l0 h0 x * near l0 h0 x) (near l1 h1 y * near l1 h1 y) (near l2 h2 z * near l2 h2 z) k)) ∧
      wr.cell? ⟨w.heap.size + 1 + 1 + 1, 1, none⟩ = some (.int .i64 (ps (far l0 h0 x * far l0 h0 x) (far l1 h1 y * far l1 h1 y) (far l2 h2 z * far l2 h2 z) k)) ∧
      (wr.frozen? ⟨w.heap.size + 1 + 1 + 1, 0, none⟩ = false ∧ wr.frozen? ⟨w.heap.size + 1 + 1 + 1, 1, none⟩ = false) ∧
      Below W0.heap.size W0 wr ∧ w.heap.size + 1 + 1 + 1 + 1 ≤ wr.heap.size) (fun _ _ _ _ i _ => 3 - (intOf i).toNat)
  case atStart => exact ⟨0, by omega, rfl, by go_simp; rfl, by go_simp; rfl, by constructor <;> go_simp, by rw [HW.out]; repeat' first | with_reducible exact Below.refl _ _ | with_reducible assumption | with_reducible refine Free.Grow.alloc ?_ _ | with_reducible refine Free.Grow.setCell ?_ (by first | omega | (simp; done) | (simp; omega)) _ | with_reducible refine Free.Grow.drew ?_ | with_reducible refine Free.Grow.trans ?_ (by assumption), by simp⟩
  case round =>
    obtain ⟨k, hk, rfl, hl1, hl2, ⟨hz1, hz2⟩, hbr, hzr⟩ := hrel
    have HB := Lib.hid hbr
    rw [HW.out] at hbr
    have hcr := (Free.cells_of hbr).1
    have hfr := (Free.cells_of hbr).2
    have hbg : Below w.heap.size w wr := by repeat' first | with_reducible exact Below.refl _ _ | with_reducible assumption | with_reducible refine Free.Grow.alloc ?_ _ | with_reducible refine Free.Grow.setCell ?_ (by first | omega | (simp; done) | (simp; omega)) _ | with_reducible refine Free.Grow.drew ?_ | with_reducible refine Free.Grow.trans ?_ (by assumption)
    clear hbr
    (have : w.heap.size < wr.heap.size := (by omega)); (have : w.heap.size < wr.heap.size + 1 := (by omega)); (have : w.heap.size < wr.heap.size + 1 + 1 := (by omega)); (have : w.heap.size + 1 < wr.heap.size := (by omega)); (have : w.heap.size + 1 < wr.heap.size + 1 := (by omega)); (have : w.heap.size + 1 < wr.heap.size + 1 + 1 := (by omega)); (have : w.heap.size + 1 + 1 < wr.heap.size := (by omega)); (have : w.heap.size + 1 + 1 < wr.heap.size + 1 := (by omega)); (have : w.heap.size + 1 + 1 < wr.heap.size + 1 + 1 := (by omega)); (have : w.heap.size + 1 + 1 + 1 < wr.heap.size := (by omega)); (have : w.heap.size + 1 + 1 + 1 < wr.heap.size + 1 := (by omega)); (have : w.heap.size + 1 + 1 + 1 < wr.heap.size + 1 + 1 := (by omega))
    unfold near far at *
    have hk4 : k = 0 ∨ k = 1 ∨ k = 2 ∨ k = 3 := by omega
    clear hk
    rcases hk4 with rfl | rfl | rfl | rfl
    all_goals simp only [ps_0, ps_1, ps_2, ps_3] at hl1 hl2
    · go_wp2
      refine Free.wp_region 14 #[0, 1, 0, 4, 12, 31, 0, 64, 192, 0, 512, 1984, 4095, 8191] (by kernel_rfl) (by kernel_rfl) ?_
      simp only [List.take_succ_cons, List.take_zero]
      iterate 14
        refine Free.E.q (by rfl) ?_
        apply Exists.intro
        refine ⟨fun u w' hc hb => ?_, ?_⟩
        go_simp
        (try go_ints); (try simp only [Ob.ite_imx, Ob.ite_imn]); first | exact rfl | (go_simp; exact rfl) | (simp only [↓IntWalk.iteOmega]; (try go_simp); exact rfl)
        simp only [Act.put, List.setIfInBounds_toArray, List.set_cons_zero, List.set_cons_succ, List.nil_append, List.cons_append]
      refine Free.E.nil (fun u w1 S hF => ?_)
      have hb1 := hF.below
      clear hF
      have hc1 := (Free.cells_of hb1).1
      have hf1 := (Free.cells_of hb1).2
      have hz1 := hb1.size
      try simp only [World.size_alloc, World.size_setCell, World.size_drew] at hz1
      (try (have : w.heap.size < w1.heap.size := (by omega)))
      (try (have : w.heap.size < w1.heap.size + 1 := (by omega)))
      (try (have : w.heap.size < w1.heap.size + 1 + 1 := (by omega)))
      (try (have : w.heap.size + 1 < w1.heap.size := (by omega)))
      (try (have : w.heap.size + 1 < w1.heap.size + 1 := (by omega)))
      (try (have : w.heap.size + 1 < w1.heap.size + 1 + 1 := (by omega)))
      (try (have : w.heap.size + 1 + 1 < w1.heap.size := (by omega)))
      (try (have : w.heap.size + 1 + 1 < w1.heap.size + 1 := (by omega)))
      (try (have : w.heap.size + 1 + 1 < w1.heap.size + 1 + 1 := (by omega)))
      (try (have : w.heap.size + 1 + 1 + 1 < w1.heap.size := (by omega)))
      (try (have : w.heap.size + 1 + 1 + 1 < w1.heap.size + 1 := (by omega)))
      (try (have : w.heap.size + 1 + 1 + 1 < w1.heap.size + 1 + 1 := (by omega)))
      (try (have : w.heap.size + 1 + 1 + 1 + 1 < w1.heap.size := (by omega)))
      (try (have : w.heap.size + 1 + 1 + 1 + 1 < w1.heap.size + 1 := (by omega)))
      (try (have : w.heap.size + 1 + 1 + 1 + 1 < w1.heap.size + 1 + 1 := (by omega)))
      (try (have : wr.heap.size < w1.heap.size := (by omega)))
      (try (have : wr.heap.size < w1.heap.size + 1 := (by omega)))
      (try (have : wr.heap.size < w1.heap.size + 1 + 1 := (by omega)))
      (try (have : wr.heap.size + 1 < w1.heap.size := (by omega)))
      (try (have : wr.heap.size + 1 < w1.heap.size + 1 := (by omega)))
      (try (have : wr.heap.size + 1 < w1.heap.size + 1 + 1 := (by omega)))
      (try (have : wr.heap.size + 1 + 1 < w1.heap.size := (by omega)))
      (try (have : wr.heap.size + 1 + 1 < w1.heap.size + 1 := (by omega)))
      (try (have : wr.heap.size + 1 + 1 < w1.heap.size + 1 + 1 := (by omega)))
      (try (have : wr.heap.size + 1 + 1 + 1 < w1.heap.size := (by omega)))
      (try (have : wr.heap.size + 1 + 1 + 1 < w1.heap.size + 1 := (by omega)))
      (try (have : wr.heap.size + 1 + 1 + 1 < w1.heap.size + 1 + 1 := (by omega)))
      simp only [List.drop_succ_cons, List.drop_zero, List.drop_nil]
      go_wp2
      refine Free.wp_region 14 #[0, 1, 0, 4, 12, 31, 0, 64, 192, 0, 512, 1984, 4095, 8191] (by kernel_rfl) (by kernel_rfl) ?_
      simp only [List.take_succ_cons, List.take_zero]
      iterate 14
        refine Free.E.q (by rfl) ?_
        apply Exists.intro
        refine ⟨fun u w' hc hb => ?_, ?_⟩
        go_simp
        (try go_ints); (try simp only [Ob.ite_imx, Ob.ite_imn]); first | exact rfl | (go_simp; exact rfl) | (simp only [↓IntWalk.iteOmega]; (try go_simp); exact rfl)
        simp only [Act.put, List.setIfInBounds_toArray, List.set_cons_zero, List.set_cons_succ, List.nil_append, List.cons_append]
      refine Free.E.nil (fun u w2 S hF => ?_)
      have hb2 := hF.below
      clear hF
      have hc2 := (Free.cells_of hb2).1
      have hf2 := (Free.cells_of hb2).2
      have hz2 := hb2.size
      try simp only [World.size_alloc, World.size_setCell, World.size_drew] at hz2
      (try (have : w.heap.size < w2.heap.size := (by omega)))
      (try (have : w.heap.size < w2.heap.size + 1 := (by omega)))
      (try (have : w.heap.size < w2.heap.size + 1 + 1 := (by omega)))
      (try (have : w.heap.size + 1 < w2.heap.size := (by omega)))
      (try (have : w.heap.size + 1 < w2.heap.size + 1 := (by omega)))
      (try (have : w.heap.size + 1 < w2.heap.size + 1 + 1 := (by omega)))
      (try (have : w.heap.size + 1 + 1 < w2.heap.size := (by omega)))
      (try (have : w.heap.size + 1 + 1 < w2.heap.size + 1 := (by omega)))
      (try (have : w.heap.size + 1 + 1 < w2.heap.size + 1 + 1 := (by omega)))
      (try (have : w.heap.size + 1 + 1 + 1 < w2.heap.size := (by omega)))
      (try (have : w.heap.size + 1 + 1 + 1 < w2.heap.size + 1 := (by omega)))
      (try (have : w.heap.size + 1 + 1 + 1 < w2.heap.size + 1 + 1 := (by omega)))
      (try (have : w.heap.size + 1 + 1 + 1 + 1 < w2.heap.size := (by omega)))
      (try (have : w.heap.size + 1 + 1 + 1 + 1 < w2.heap.size + 1 := (by omega)))
      (try (have : w.heap.size + 1 + 1 + 1 + 1 < w2.heap.size + 1 + 1 := (by omega)))
      (try (have : wr.heap.size < w2.heap.size := (by omega)))
      (try (have : wr.heap.size < w2.heap.size + 1 := (by omega)))
      (try (have : wr.heap.size < w2.heap.size + 1 + 1 := (by omega)))
      (try (have : wr.heap.size + 1 < w2.heap.size := (by omega)))
      (try (have : wr.heap.size + 1 < w2.heap.size + 1 := (by omega)))
      (try (have : wr.heap.size + 1 < w2.heap.size + 1 + 1 := (by omega)))
      (try (have : wr.heap.size + 1 + 1 < w2.heap.size := (by omega)))
      (try (have : wr.heap.size + 1 + 1 < w2.heap.size + 1 := (by omega)))
      (try (have : wr.heap.size + 1 + 1 < w2.heap.size + 1 + 1 := (by omega)))
      (try (have : wr.heap.size + 1 + 1 + 1 < w2.heap.size := (by omega)))
      (try (have : wr.heap.size + 1 + 1 + 1 < w2.heap.size + 1 := (by omega)))
      (try (have : wr.heap.size + 1 + 1 + 1 < w2.heap.size + 1 + 1 := (by omega)))
      (try (have : w1.heap.size < w2.heap.size := (by omega)))
      (try (have : w1.heap.size < w2.heap.size + 1 := (by omega)))
      (try (have : w1.heap.size < w2.heap.size + 1 + 1 := (by omega)))
      (try (have : w1.heap.size + 1 < w2.heap.size := (by omega)))
      (try (have : w1.heap.size + 1 < w2.heap.size + 1 := (by omega)))
      (try (have : w1.heap.size + 1 < w2.heap.size + 1 + 1 := (by omega)))
      (try (have : w1.heap.size + 1 + 1 < w2.heap.size := (by omega)))
      (try (have : w1.heap.size + 1 + 1 < w2.heap.size + 1 := (by omega)))
      (try (have : w1.heap.size + 1 + 1 < w2.heap.size + 1 + 1 := (by omega)))
      (try (have : w1.heap.size + 1 + 1 + 1 < w2.heap.size := (by omega)))
      (try (have : w1.heap.size + 1 + 1 + 1 < w2.heap.size + 1 := (by omega)))
      (try (have : w1.heap.size + 1 + 1 + 1 < w2.heap.size + 1 + 1 := (by omega)))
      simp only [List.drop_succ_cons, List.drop_zero, List.drop_nil]
      go_wp2
      go_roundw
      case measure => simp [intOf]
      case rel => exact ⟨1, by omega, rfl, by simp only [ps_1]; go_simp, by simp only [ps_1]; go_simp, by constructor <;> go_simp, (by have hb0 := HB.out; have hs0 : W0.heap.size ≤ w.heap.size + 1 + 1 + 1 := (by rw [HW.out]; simp); clear hbg; repeat' first | with_reducible exact Below.refl _ _ | with_reducible assumption | with_reducible refine Free.Grow.alloc ?_ _ | with_reducible refine Free.Grow.setCell ?_ (by first | omega | (simp; done) | (simp; omega)) _ | with_reducible refine Free.Grow.drew ?_ | with_reducible refine Free.Grow.trans ?_ (by assumption)), by simp; omega⟩
    · go_wp2
      refine Free.wp_region 14 #[0, 1, 0, 4, 12, 31, 0, 64, 192, 0, 512, 1984, 4095, 8191] (by kernel_rfl) (by kernel_rfl) ?_
      simp only [List.take_succ_cons, List.take_zero]
      iterate 14
        refine Free.E.q (by rfl) ?_
        apply Exists.intro
        refine ⟨fun u w' hc hb => ?_, ?_⟩
        go_simp
        (try go_ints); (try simp only [Ob.ite_imx, Ob.ite_imn]); first | exact rfl | (go_simp; exact rfl) | (simp only [↓IntWalk.iteOmega]; (try go_simp); exact rfl)
        simp only [Act.put, List.setIfInBounds_toArray, List.set_cons_zero, List.set_cons_succ, List.nil_append, List.cons_append]
      refine Free.E.nil (fun u w1 S hF => ?_)
      have hb1 := hF.below
      clear hF
      have hc1 := (Free.cells_of hb1).1
      have hf1 := (Free.cells_of hb1).2
      have hz1 := hb1.size
      try simp only [World.size_alloc, World.size_setCell, World.size_drew] at hz1
      (try (have : w.heap.size < w1.heap.size := (by omega)))
      (try (have : w.heap.size < w1.heap.size + 1 := (by omega)))
      (try (have : w.heap.size < w1.heap.size + 1 + 1 := (by omega)))
      (try (have : w.heap.size + 1 < w1.heap.size := (by omega)))
      (try (have : w.heap.size + 1 < w1.heap.size + 1 := (by omega)))
      (try (have : w.heap.size + 1 < w1.heap.size + 1 + 1 := (by omega)))
      (try (have : w.heap.size + 1 + 1 < w1.heap.size := (by omega)))
      (try (have : w.heap.size + 1 + 1 < w1.heap.size + 1 := (by omega)))
      (try (have : w.heap.size + 1 + 1 < w1.heap.size + 1 + 1 := (by omega)))
      (try (have : w.heap.size + 1 + 1 + 1 < w1.heap.size := (by omega)))
      (try (have : w.heap.size + 1 + 1 + 1 < w1.heap.size + 1 := (by omega)))
      (try (have : w.heap.size + 1 + 1 + 1 < w1.heap.size + 1 + 1 := (by omega)))
      (try (have : w.heap.size + 1 + 1 + 1 + 1 < w1.heap.size := (by omega)))
      (try (have : w.heap.size + 1 + 1 + 1 + 1 < w1.heap.size + 1 := (by omega)))
      (try (have : w.heap.size + 1 + 1 + 1 + 1 < w1.heap.size + 1 + 1 := (by omega)))
      (try (have : wr.heap.size < w1.heap.size := (by omega)))
      (try (have : wr.heap.size < w1.heap.size + 1 := (by omega)))
      (try (have : wr.heap.size < w1.heap.size + 1 + 1 := (by omega)))
      (try (have : wr.heap.size + 1 < w1.heap.size := (by omega)))
      (try (have : wr.heap.size + 1 < w1.heap.size + 1 := (by omega)))
      (try (have : wr.heap.size + 1 < w1.heap.size + 1 + 1 := (by omega)))
      (try (have : wr.heap.size + 1 + 1 < w1.heap.size := (by omega)))
      (try (have : wr.heap.size + 1 + 1 < w1.heap.size + 1 := (by omega)))
      (try (have : wr.heap.size + 1 + 1 < w1.heap.size + 1 + 1 := (by omega)))
      (try (have : wr.heap.size + 1 + 1 + 1 < w1.heap.size := (by omega)))
      (try (have : wr.heap.size + 1 + 1 + 1 < w1.heap.size + 1 := (by omega)))
      (try (have : wr.heap.size + 1 + 1 + 1 < w1.heap.size + 1 + 1 := (by omega)))
      simp only [List.drop_succ_cons, List.drop_zero, List.drop_nil]
      go_wp2
      refine Free.wp_region 14 #[0, 1, 0, 4, 12, 31, 0, 64, 192, 0, 512, 1984, 4095, 8191] (by kernel_rfl) (by kernel_rfl) ?_
      simp only [List.take_succ_cons, List.take_zero]
      iterate 14
        refine Free.E.q (by rfl) ?_
        apply Exists.intro
        refine ⟨fun u w' hc hb => ?_, ?_⟩
        go_simp
        (try go_ints); (try simp only [Ob.ite_imx, Ob.ite_imn]); first | exact rfl | (go_simp; exact rfl) | (simp only [↓IntWalk.iteOmega]; (try go_simp); exact rfl)
        simp only [Act.put, List.setIfInBounds_toArray, List.set_cons_zero, List.set_cons_succ, List.nil_append, List.cons_append]
      refine Free.E.nil (fun u w2 S hF => ?_)
      have hb2 := hF.below
      clear hF
      have hc2 := (Free.cells_of hb2).1
      have hf2 := (Free.cells_of hb2).2
      have hz2 := hb2.size
      try simp only [World.size_alloc, World.size_setCell, World.size_drew] at hz2
      (try (have : w.heap.size < w2.heap.size := (by omega)))
      (try (have : w.heap.size < w2.heap.size + 1 := (by omega)))
      (try (have : w.heap.size < w2.heap.size + 1 + 1 := (by omega)))
      (try (have : w.heap.size + 1 < w2.heap.size := (by omega)))
      (try (have : w.heap.size + 1 < w2.heap.size + 1 := (by omega)))
      (try (have : w.heap.size + 1 < w2.heap.size + 1 + 1 := (by omega)))
      (try (have : w.heap.size + 1 + 1 < w2.heap.size := (by omega)))
      (try (have : w.heap.size + 1 + 1 < w2.heap.size + 1 := (by omega)))
      (try (have : w.heap.size + 1 + 1 < w2.heap.size + 1 + 1 := (by omega)))
      (try (have : w.heap.size + 1 + 1 + 1 < w2.heap.size := (by omega)))
      (try (have : w.heap.size + 1 + 1 + 1 < w2.heap.size + 1 := (by omega)))
      (try (have : w.heap.size + 1 + 1 + 1 < w2.heap.size + 1 + 1 := (by omega)))
      (try (have : w.heap.size + 1 + 1 + 1 + 1 < w2.heap.size := (by omega)))
      (try (have : w.heap.size + 1 + 1 + 1 + 1 < w2.heap.size + 1 := (by omega)))
      (try (have : w.heap.size + 1 + 1 + 1 + 1 < w2.heap.size + 1 + 1 := (by omega)))
      (try (have : wr.heap.size < w2.heap.size := (by omega)))
      (try (have : wr.heap.size < w2.heap.size + 1 := (by omega)))
      (try (have : wr.heap.size < w2.heap.size + 1 + 1 := (by omega)))
      (try (have : wr.heap.size + 1 < w2.heap.size := (by omega)))
      (try (have : wr.heap.size + 1 < w2.heap.size + 1 := (by omega)))
      (try (have : wr.heap.size + 1 < w2.heap.size + 1 + 1 := (by omega)))
      (try (have : wr.heap.size + 1 + 1 < w2.heap.size := (by omega)))
      (try (have : wr.heap.size + 1 + 1 < w2.heap.size + 1 := (by omega)))
      (try (have : wr.heap.size + 1 + 1 < w2.heap.size + 1 + 1 := (by omega)))
      (try (have : wr.heap.size + 1 + 1 + 1 < w2.heap.size := (by omega)))
      (try (have : wr.heap.size + 1 + 1 + 1 < w2.heap.size + 1 := (by omega)))
      (try (have : wr.heap.size + 1 + 1 + 1 < w2.heap.size + 1 + 1 := (by omega)))
      (try (have : w1.heap.size < w2.heap.size := (by omega)))
      (try (have : w1.heap.size < w2.heap.size + 1 := (by omega)))
      (try (have : w1.heap.size < w2.heap.size + 1 + 1 := (by omega)))
      (try (have : w1.heap.size + 1 < w2.heap.size := (by omega)))
      (try (have : w1.heap.size + 1 < w2.heap.size + 1 := (by omega)))
      (try (have : w1.heap.size + 1 < w2.heap.size + 1 + 1 := (by omega)))
      (try (have : w1.heap.size + 1 + 1 < w2.heap.size := (by omega)))
      (try (have : w1.heap.size + 1 + 1 < w2.heap.size + 1 := (by omega)))
      (try (have : w1.heap.size + 1 + 1 < w2.heap.size + 1 + 1 := (by omega)))
      (try (have : w1.heap.size + 1 + 1 + 1 < w2.heap.size := (by omega)))
      (try (have : w1.heap.size + 1 + 1 + 1 < w2.heap.size + 1 := (by omega)))
      (try (have : w1.heap.size + 1 + 1 + 1 < w2.heap.size + 1 + 1 := (by omega)))
      simp only [List.drop_succ_cons, List.drop_zero, List.drop_nil]
      go_wp2
      go_roundw
      case measure => simp [intOf]
      case rel => exact ⟨2, by omega, rfl, by simp only [ps_2]; go_simp, by simp only [ps_2]; go_simp, by constructor <;> go_simp, (by have hb0 := HB.out; have hs0 : W0.heap.size ≤ w.heap.size + 1 + 1 + 1 := (by rw [HW.out]; simp); clear hbg; repeat' first | with_reducible exact Below.refl _ _ | with_reducible assumption | with_reducible refine Free.Grow.alloc ?_ _ | with_reducible refine Free.Grow.setCell ?_ (by first | omega | (simp; done) | (simp; omega)) _ | with_reducible refine Free.Grow.drew ?_ | with_reducible refine Free.Grow.trans ?_ (by assumption)), by simp; omega⟩
    · go_wp2
      refine Free.wp_region 14 #[0, 1, 0, 4, 12, 31, 0, 64, 192, 0, 512, 1984, 4095, 8191] (by kernel_rfl) (by kernel_rfl) ?_
      simp only [List.take_succ_cons, List.take_zero]
      iterate 14
        refine Free.E.q (by rfl) ?_
        apply Exists.intro
        refine ⟨fun u w' hc hb => ?_, ?_⟩
        go_simp
        (try go_ints); (try simp only [Ob.ite_imx, Ob.ite_imn]); first | exact rfl | (go_simp; exact rfl) | (simp only [↓IntWalk.iteOmega]; (try go_simp); exact rfl)
        simp only [Act.put, List.setIfInBounds_toArray, List.set_cons_zero, List.set_cons_succ, List.nil_append, List.cons_append]
      refine Free.E.nil (fun u w1 S hF => ?_)
      have hb1 := hF.below
      clear hF
      have hc1 := (Free.cells_of hb1).1
      have hf1 := (Free.cells_of hb1).2
      have hz1 := hb1.size
      try simp only [World.size_alloc, World.size_setCell, World.size_drew] at hz1
      (try (have : w.heap.size < w1.heap.size := (by omega)))
      (try (have : w.heap.size < w1.heap.size + 1 := (by omega)))
      (try (have : w.heap.size < w1.heap.size + 1 + 1 := (by omega)))
      (try (have : w.heap.size + 1 < w1.heap.size := (by omega)))
      (try (have : w.heap.size + 1 < w1.heap.size + 1 := (by omega)))
      (try (have : w.heap.size + 1 < w1.heap.size + 1 + 1 := (by omega)))
      (try (have : w.heap.size + 1 + 1 < w1.heap.size := (by omega)))
      (try (have : w.heap.size + 1 + 1 < w1.heap.size + 1 := (by omega)))
      (try (have : w.heap.size + 1 + 1 < w1.heap.size + 1 + 1 := (by omega)))
      (try (have : w.heap.size + 1 + 1 + 1 < w1.heap.size := (by omega)))
      (try (have : w.heap.size + 1 + 1 + 1 < w1.heap.size + 1 := (by omega)))
      (try (have : w.heap.size + 1 + 1 + 1 < w1.heap.size + 1 + 1 := (by omega)))
      (try (have : w.heap.size + 1 + 1 + 1 + 1 < w1.heap.size := (by omega)))
      (try (have : w.heap.size + 1 + 1 + 1 + 1 < w1.heap.size + 1 := (by omega)))
      (try (have : w.heap.size + 1 + 1 + 1 + 1 < w1.heap.size + 1 + 1 := (by omega)))
      (try (have : wr.heap.size < w1.heap.size := (by omega)))
      (try (have : wr.heap.size < w1.heap.size + 1 := (by omega)))
      (try (have : wr.heap.size < w1.heap.size + 1 + 1 := (by omega)))
      (try (have : wr.heap.size + 1 < w1.heap.size := (by omega)))
      (try (have : wr.heap.size + 1 < w1.heap.size + 1 := (by omega)))
      (try (have : wr.heap.size + 1 < w1.heap.size + 1 + 1 := (by omega)))
      (try (have : wr.heap.size + 1 + 1 < w1.heap.size := (by omega)))
      (try (have : wr.heap.size + 1 + 1 < w1.heap.size + 1 := (by omega)))
      (try (have : wr.heap.size + 1 + 1 < w1.heap.size + 1 + 1 := (by omega)))
      (try (have : wr.heap.size + 1 + 1 + 1 < w1.heap.size := (by omega)))
      (try (have : wr.heap.size + 1 + 1 + 1 < w1.heap.size + 1 := (by omega)))
      (try (have : wr.heap.size + 1 + 1 + 1 < w1.heap.size + 1 + 1 := (by omega)))
      simp only [List.drop_succ_cons, List.drop_zero, List.drop_nil]
      go_wp2
      refine Free.wp_region 14 #[0, 1, 0, 4, 12, 31, 0, 64, 192, 0, 512, 1984, 4095, 8191] (by kernel_rfl) (by kernel_rfl) ?_
      simp only [List.take_succ_cons, List.take_zero]
      iterate 14
        refine Free.E.q (by rfl) ?_
        apply Exists.intro
        refine ⟨fun u w' hc hb => ?_, ?_⟩
        go_simp
        (try go_ints); (try simp only [Ob.ite_imx, Ob.ite_imn]); first | exact rfl | (go_simp; exact rfl) | (simp only [↓IntWalk.iteOmega]; (try go_simp); exact rfl)
        simp only [Act.put, List.setIfInBounds_toArray, List.set_cons_zero, List.set_cons_succ, List.nil_append, List.cons_append]
      refine Free.E.nil (fun u w2 S hF => ?_)
      have hb2 := hF.below
      clear hF
      have hc2 := (Free.cells_of hb2).1
      have hf2 := (Free.cells_of hb2).2
      have hz2 := hb2.size
      try simp only [World.size_alloc, World.size_setCell, World.size_drew] at hz2
      (try (have : w.heap.size < w2.heap.size := (by omega)))
      (try (have : w.heap.size < w2.heap.size + 1 := (by omega)))
      (try (have : w.heap.size < w2.heap.size + 1 + 1 := (by omega)))
      (try (have : w.heap.size + 1 < w2.heap.size := (by omega)))
      (try (have : w.heap.size + 1 < w2.heap.size + 1 := (by omega)))
      (try (have : w.heap.size + 1 < w2.heap.size + 1 + 1 := (by omega)))
      (try (have : w.heap.size + 1 + 1 < w2.heap.size := (by omega)))
      (try (have : w.heap.size + 1 + 1 < w2.heap.size + 1 := (by omega)))
      (try (have : w.heap.size + 1 + 1 < w2.heap.size + 1 + 1 := (by omega)))
      (try (have : w.heap.size + 1 + 1 + 1 < w2.heap.size := (by omega)))
      (try (have : w.heap.size + 1 + 1 + 1 < w2.heap.size + 1 := (by omega)))
      (try (have : w.heap.size + 1 + 1 + 1 < w2.heap.size + 1 + 1 := (by omega)))
      (try (have : w.heap.size + 1 + 1 + 1 + 1 < w2.heap.size := (by omega)))
      (try (have : w.heap.size + 1 + 1 + 1 + 1 < w2.heap.size + 1 := (by omega)))
      (try (have : w.heap.size + 1 + 1 + 1 + 1 < w2.heap.size + 1 + 1 := (by omega)))
      (try (have : wr.heap.size < w2.heap.size := (by omega)))
      (try (have : wr.heap.size < w2.heap.size + 1 := (by omega)))
      (try (have : wr.heap.size < w2.heap.size + 1 + 1 := (by omega)))
      (try (have : wr.heap.size + 1 < w2.heap.size := (by omega)))
      (try (have : wr.heap.size + 1 < w2.heap.size + 1 := (by omega)))
      (try (have : wr.heap.size + 1 < w2.heap.size + 1 + 1 := (by omega)))
      (try (have : wr.heap.size + 1 + 1 < w2.heap.size := (by omega)))
      (try (have : wr.heap.size + 1 + 1 < w2.heap.size + 1 := (by omega)))
      (try (have : wr.heap.size + 1 + 1 < w2.heap.size + 1 + 1 := (by omega)))
      (try (have : wr.heap.size + 1 + 1 + 1 < w2.heap.size := (by omega)))
      (try (have : wr.heap.size + 1 + 1 + 1 < w2.heap.size + 1 := (by omega)))
      (try (have : wr.heap.size + 1 + 1 + 1 < w2.heap.size + 1 + 1 := (by omega)))
      (try (have : w1.heap.size < w2.heap.size := (by omega)))
      (try (have : w1.heap.size < w2.heap.size + 1 := (by omega)))
      (try (have : w1.heap.size < w2.heap.size + 1 + 1 := (by omega)))
      (try (have : w1.heap.size + 1 < w2.heap.size := (by omega)))
      (try (have : w1.heap.size + 1 < w2.heap.size + 1 := (by omega)))
      (try (have : w1.heap.size + 1 < w2.heap.size + 1 + 1 := (by omega)))
      (try (have : w1.heap.size + 1 + 1 < w2.heap.size := (by omega)))
      (try (have : w1.heap.size + 1 + 1 < w2.heap.size + 1 := (by omega)))
      (try (have : w1.heap.size + 1 + 1 < w2.heap.size + 1 + 1 := (by omega)))
      (try (have : w1.heap.size + 1 + 1 + 1 < w2.heap.size := (by omega)))
      (try (have : w1.heap.size + 1 + 1 + 1 < w2.heap.size + 1 := (by omega)))
      (try (have : w1.heap.size + 1 + 1 + 1 < w2.heap.size + 1 + 1 := (by omega)))
      simp only [List.drop_succ_cons, List.drop_zero, List.drop_nil]
      go_wp2
      go_roundw
      case measure => simp [intOf]
      case rel => exact ⟨3, by omega, rfl, by simp only [ps_3]; go_simp, by simp only [ps_3]; go_simp, by constructor <;> go_simp, (by have hb0 := HB.out; have hs0 : W0.heap.size ≤ w.heap.size + 1 + 1 + 1 := (by rw [HW.out]; simp); clear hbg; repeat' first | with_reducible exact Below.refl _ _ | with_reducible assumption | with_reducible refine Free.Grow.alloc ?_ _ | with_reducible refine Free.Grow.setCell ?_ (by first | omega | (simp; done) | (simp; omega)) _ | with_reducible refine Free.Grow.drew ?_ | with_reducible refine Free.Grow.trans ?_ (by assumption)), by simp; omega⟩
    · go_wp2
      refine bodyPost_ret (v := .agg #[.int .i64 (sqLo ⟨l0, h0, l1, h1, l2, h2⟩ x y z), .int .i64 (sqHi ⟨l0, h0, l1, h1, l2, h2⟩ x y z)]) (by simp [results, Tryz.results75, go_sem, sqLo, sqHi, near, far, *]) rfl ?_
      exact ⟨rfl, by repeat' first | with_reducible exact Below.refl _ _ | with_reducible assumption | with_reducible refine Free.Grow.alloc ?_ _ | with_reducible refine Free.Grow.setCell ?_ (by first | omega | (simp; done) | (simp; omega)) _ | with_reducible refine Free.Grow.drew ?_ | with_reducible refine Free.Grow.trans ?_ (by assumption)⟩
end Go.Proofs.YthhhkjbhhjcjoaaGreatDoor
