/- Chapter 2: distances, in the program and in the reference. -/
import Derived.Test.YthhhkjbhhjcjoaaGreatDoor02y
import Derived.Test.YthhhkjbhhjcjoaaGreatDoorFreeEach
set_option linter.unusedSimpArgs false
set_option linter.unusedVariables false
namespace Go.Proofs.YthhhkjbhhjcjoaaGreatDoor
open Go.RowKit Go.Ob

def distOr (nm : List UInt8) (bd : Int) (l : List St) (t x y z : Int) : Int × Int := if sqE nm bd l t x y z = 0 then (rt (sqLo (bx bd l t) x y z), rtUp (sqHi (bx bd l t) x y z)) else (0, 0)
theorem sq_sums {q : Bx} (hq : q.Ok) {x y z : Int} (hx : -200000000 ≤ x ∧ x ≤ 200000000) (hy : -200000000 ≤ y ∧ y ≤ 200000000) (hz : -200000000 ≤ z ∧ z ≤ 200000000) :
    (0 ≤ sqLo q x y z ∧ sqLo q x y z ≤ 750000000000000000) ∧ (0 ≤ sqHi q x y z ∧ sqHi q x y z ≤ 750000000000000000) := by
  have n0 := near_bd hq.l00 hq.l01 hq.h01 hx.1 hx.2
  have n1 := near_bd hq.l10 hq.l11 hq.h11 hy.1 hy.2
  have n2 := near_bd hq.l20 hq.l21 hq.h21 hz.1 hz.2
  have f0 := far_bd hq.l00 hq.l01 hq.h01 hx.1 hx.2
  have f1 := far_bd hq.l10 hq.l11 hq.h11 hy.1 hy.2
  have f2 := far_bd hq.l20 hq.l21 hq.h21 hz.1 hz.2
  unfold sqLo sqHi
  omega

set_option maxRecDepth 100000 in
set_option maxHeartbeats 2000000 in
theorem DistanceAt_any (nm : ByteArray) (bd t x y z : Int) (a : Option Addr) (cap : Nat) (l : List St) (w : World) (hO : OrbIn w nm a cap l) :
    Calls Tryz.prog 28 #[obV nm bd a l.length cap, .int .i64 t, v3 x y z] w fun e w' => e = .returned (.tuple #[.agg #[.int .i64 (distOr nm.data.toList bd l t x y z).1, .int .i64 (distOr nm.data.toList bd l t x y z).2], .int .i64 (sqE nm.data.toList bd l t x y z)]) ∧ Below w.heap.size w w' := by
  have HA := Lib.hid (fun w' (h : OrbIn w' nm a cap l) => SquareAt_any nm bd t x y z a cap l w' h)
  have HO := Lib.hid hO
  by_cases h : sqE nm.data.toList bd l t x y z = 0
  · have h2 := (firstE_two _ _).1 h
    obtain ⟨hR, h0, h1⟩ := atE_zero h2.1
    obtain ⟨hx, hy, hz⟩ := placeE_zero h2.2
    have hs := sq_sums (bx_ok hR h0 h1) (x := x) (y := y) (z := z) (by omega) (by omega) (by omega)
    have e1 : sqOr nm.data.toList bd l t x y z = (sqLo (bx bd l t) x y z, sqHi (bx bd l t) x y z) := by unfold sqOr; rw [if_pos h]
    have e2 : distOr nm.data.toList bd l t x y z = (rt (sqLo (bx bd l t) x y z), rtUp (sqHi (bx bd l t) x y z)) := by unfold distOr; rw [if_pos h]
    rw [e2, h]
    rw [e1, h] at HA
    clear e1 e2 h h2 hO hR h0 h1
    generalize sqLo (bx bd l t) x y z = s0 at *
    generalize sqHi (bx bd l t) x y z = s1 at *
    obtain ⟨⟨s00, s01⟩, s10, s11⟩ := hs
    simp only at HA
    refine Calls.made fun R HR => ?_
    go_enter Tryz.func28, Tryz.ntmps28
    go_wp2_with (go_at_call 31; refine (HA.out _ (HO.out.below (by repeat' first | with_reducible exact Below.refl _ _ | with_reducible assumption | with_reducible refine Free.Grow.alloc ?_ _ | with_reducible refine Free.Grow.setCell ?_ (by first | omega | (simp; done) | (simp; omega)) _ | with_reducible refine Free.Grow.drew ?_ | with_reducible refine Free.Grow.trans ?_ (by assumption)))).mono ?_; rintro e w1 ⟨rfl, hb1⟩; have hc1 := (Free.cells_of hb1).1; have hf1 := (Free.cells_of hb1).2; have hz1 := hb1.size; (try simp only [World.size_alloc, World.size_setCell, World.size_drew] at hz1); (try (have : w.heap.size < w1.heap.size := (by omega))); (try (have : w.heap.size < w1.heap.size + 1 := (by omega))); (try (have : w.heap.size < w1.heap.size + 1 + 1 := (by omega))); (try (have : w.heap.size + 1 < w1.heap.size := (by omega))); (try (have : w.heap.size + 1 < w1.heap.size + 1 := (by omega))); (try (have : w.heap.size + 1 < w1.heap.size + 1 + 1 := (by omega))); (try (have : w.heap.size + 1 + 1 < w1.heap.size := (by omega))); (try (have : w.heap.size + 1 + 1 < w1.heap.size + 1 := (by omega))); (try (have : w.heap.size + 1 + 1 < w1.heap.size + 1 + 1 := (by omega))); (try (have : w.heap.size + 1 + 1 + 1 < w1.heap.size := (by omega))); (try (have : w.heap.size + 1 + 1 + 1 < w1.heap.size + 1 := (by omega))); (try (have : w.heap.size + 1 + 1 + 1 < w1.heap.size + 1 + 1 := (by omega))))
    refine Free.wp_region 7 #[0, 1, 3, 0, 8, 31, 63, 127, 255] (by kernel_rfl) (by kernel_rfl) ?_
    simp only [List.take_succ_cons, List.take_zero]
    iterate 7
      refine Free.E.q (by rfl) ?_
      apply Exists.intro
      refine ⟨fun u w' hc hb => ?_, ?_⟩
      go_simp
      (try go_ints); (try simp only [Ob.ite_imx, Ob.ite_imn]); first | exact rfl | (go_simp; exact rfl) | ((go_at_call 71; exact Free.Calls.grow (root_any _ _ (by omega) (by omega)))) | ((go_at_call 72; exact Free.Calls.grow (rootUp_any _ _ (by omega) (by omega)))) | (simp only [↓IntWalk.iteOmega]; (try go_simp); exact rfl)
      simp only [Act.put, List.setIfInBounds_toArray, List.set_cons_zero, List.set_cons_succ, List.nil_append, List.cons_append]
    refine Free.E.nil (fun u w2 S hF => ?_)
    have hb2 := hF.below
    clear hF
    have hc2 := (Free.cells_of hb2).1
    have hf2 := (Free.cells_of hb2).2
    have hz2 := hb2.size
    try simp only [World.size_alloc, World.size_setCell, World.size_drew] at hz2
    (try (have : w.heap.size < w2.heap.size := (by omega)))
    (try (have : w.heap.size < w2.heap.size + 1 := (by omega)))
    (try (have : w.heap.size < w2.heap.size + 1 + 1 := (by omega)))
    (try (have : w.heap.size + 1 < w2.heap.size := (by omega)))
    (try (have : w.heap.size + 1 < w2.heap.size + 1 := (by omega)))
    (try (have : w.heap.size + 1 < w2.heap.size + 1 + 1 := (by omega)))
    (try (have : w.heap.size + 1 + 1 < w2.heap.size := (by omega)))
    (try (have : w.heap.size + 1 + 1 < w2.heap.size + 1 := (by omega)))
    (try (have : w.heap.size + 1 + 1 < w2.heap.size + 1 + 1 := (by omega)))
    (try (have : w.heap.size + 1 + 1 + 1 < w2.heap.size := (by omega)))
    (try (have : w.heap.size + 1 + 1 + 1 < w2.heap.size + 1 := (by omega)))
    (try (have : w.heap.size + 1 + 1 + 1 < w2.heap.size + 1 + 1 := (by omega)))
    (try (have : w1.heap.size < w2.heap.size := (by omega)))
    (try (have : w1.heap.size < w2.heap.size + 1 := (by omega)))
    (try (have : w1.heap.size < w2.heap.size + 1 + 1 := (by omega)))
    (try (have : w1.heap.size + 1 < w2.heap.size := (by omega)))
    (try (have : w1.heap.size + 1 < w2.heap.size + 1 := (by omega)))
    (try (have : w1.heap.size + 1 < w2.heap.size + 1 + 1 := (by omega)))
    (try (have : w1.heap.size + 1 + 1 < w2.heap.size := (by omega)))
    (try (have : w1.heap.size + 1 + 1 < w2.heap.size + 1 := (by omega)))
    (try (have : w1.heap.size + 1 + 1 < w2.heap.size + 1 + 1 := (by omega)))
    (try (have : w1.heap.size + 1 + 1 + 1 < w2.heap.size := (by omega)))
    (try (have : w1.heap.size + 1 + 1 + 1 < w2.heap.size + 1 := (by omega)))
    (try (have : w1.heap.size + 1 + 1 + 1 < w2.heap.size + 1 + 1 := (by omega)))
    simp only [List.drop_succ_cons, List.drop_zero, List.drop_nil]
    go_wp2
    refine bodyPost_ret (v := .tuple #[.agg #[.int .i64 (rt s0), .int .i64 (rtUp s1)], .int .i64 0]) (by simp [results, Tryz.results28, go_sem, *]) rfl ?_
    exact HR.out _ (by repeat' first | with_reducible exact Below.refl _ _ | with_reducible assumption | with_reducible refine Free.Grow.alloc ?_ _ | with_reducible refine Free.Grow.setCell ?_ (by first | omega | (simp; done) | (simp; omega)) _ | with_reducible refine Free.Grow.drew ?_ | with_reducible refine Free.Grow.trans ?_ (by assumption))
  · have e1 : sqOr nm.data.toList bd l t x y z = (0, 0) := by unfold sqOr; rw [if_neg h]
    have e2 : distOr nm.data.toList bd l t x y z = (0, 0) := by unfold distOr; rw [if_neg h]
    rw [e2]
    rw [e1] at HA
    have hb0 : (sqE nm.data.toList bd l t x y z != 0) = true := by simpa using h
    clear e1 e2 h hO
    generalize sqE nm.data.toList bd l t x y z = c at *
    refine Calls.made fun R HR => ?_
    go_enter Tryz.func28, Tryz.ntmps28
    go_wp2_with (go_at_call 31; refine (HA.out _ (HO.out.below (by repeat' first | with_reducible exact Below.refl _ _ | with_reducible assumption | with_reducible refine Free.Grow.alloc ?_ _ | with_reducible refine Free.Grow.setCell ?_ (by first | omega | (simp; done) | (simp; omega)) _ | with_reducible refine Free.Grow.drew ?_ | with_reducible refine Free.Grow.trans ?_ (by assumption)))).mono ?_; rintro e w1 ⟨rfl, hb1⟩; have hc1 := (Free.cells_of hb1).1; have hf1 := (Free.cells_of hb1).2; have hz1 := hb1.size; (try simp only [World.size_alloc, World.size_setCell, World.size_drew] at hz1); (try (have : w.heap.size < w1.heap.size := (by omega))); (try (have : w.heap.size < w1.heap.size + 1 := (by omega))); (try (have : w.heap.size < w1.heap.size + 1 + 1 := (by omega))); (try (have : w.heap.size + 1 < w1.heap.size := (by omega))); (try (have : w.heap.size + 1 < w1.heap.size + 1 := (by omega))); (try (have : w.heap.size + 1 < w1.heap.size + 1 + 1 := (by omega))); (try (have : w.heap.size + 1 + 1 < w1.heap.size := (by omega))); (try (have : w.heap.size + 1 + 1 < w1.heap.size + 1 := (by omega))); (try (have : w.heap.size + 1 + 1 < w1.heap.size + 1 + 1 := (by omega))); (try (have : w.heap.size + 1 + 1 + 1 < w1.heap.size := (by omega))); (try (have : w.heap.size + 1 + 1 + 1 < w1.heap.size + 1 := (by omega))); (try (have : w.heap.size + 1 + 1 + 1 < w1.heap.size + 1 + 1 := (by omega))))
    refine bodyPost_ret (v := .tuple #[.agg #[.int .i64 0, .int .i64 0], .int .i64 c]) (by simp [results, Tryz.results28, go_sem, *]) rfl ?_
    exact HR.out _ (by repeat' first | with_reducible exact Below.refl _ _ | with_reducible assumption | with_reducible refine Free.Grow.alloc ?_ _ | with_reducible refine Free.Grow.setCell ?_ (by first | omega | (simp; done) | (simp; omega)) _ | with_reducible refine Free.Grow.drew ?_ | with_reducible refine Free.Grow.trans ?_ (by assumption))

end Go.Proofs.YthhhkjbhhjcjoaaGreatDoor
