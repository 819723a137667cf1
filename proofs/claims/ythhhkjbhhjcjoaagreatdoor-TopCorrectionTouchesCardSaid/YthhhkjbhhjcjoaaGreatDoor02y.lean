/- Chapter 2: SquareAt of the program. -/
import Derived.Test.YthhhkjbhhjcjoaaGreatDoor02w
set_option linter.unusedSimpArgs false
set_option linter.unusedVariables false
namespace Go.Proofs.YthhhkjbhhjcjoaaGreatDoor
open Go.RowKit Go.Ob

theorem placeE_zero {x y z : Int} (h : placeE x y z = 0) : (-100000000 ≤ x ∧ x ≤ 100000000) ∧ (-100000000 ≤ y ∧ y ≤ 100000000) ∧ (-100000000 ≤ z ∧ z ≤ 100000000) := by
  unfold placeE at h; rw [firstE_three, bnd_ok, bnd_ok, bnd_ok] at h; exact h

def sqE (nm : List UInt8) (bd : Int) (l : List St) (t x y z : Int) : Int := firstE [atE nm bd l t, placeE x y z]
def sqOr (nm : List UInt8) (bd : Int) (l : List St) (t x y z : Int) : Int × Int := if sqE nm bd l t x y z = 0 then (sqLo (bx bd l t) x y z, sqHi (bx bd l t) x y z) else (0, 0)

set_option maxRecDepth 100000 in
set_option maxHeartbeats 2000000 in
theorem SquareAt_any (nm : ByteArray) (bd t x y z : Int) (a : Option Addr) (cap : Nat) (l : List St) (w : World) (hO : OrbIn w nm a cap l) :
    Calls Tryz.prog 31 #[obV nm bd a l.length cap, .int .i64 t, v3 x y z] w fun e w' => e = .returned (.tuple #[.agg #[.int .i64 (sqOr nm.data.toList bd l t x y z).1, .int .i64 (sqOr nm.data.toList bd l t x y z).2], .int .i64 (sqE nm.data.toList bd l t x y z)]) ∧ Below w.heap.size w w' := by
  have HA := Lib.hid (fun w' (h : OrbIn w' nm a cap l) => at_any nm bd t a cap l w' h.nm h.sts h.cap h.len)
  by_cases h : sqE nm.data.toList bd l t x y z = 0
  · have h2 := (firstE_two _ _).1 h
    obtain ⟨hR, h0, h1⟩ := atE_zero h2.1
    obtain ⟨⟨x0, x1⟩, ⟨y0, y1⟩, z0, z1⟩ := placeE_zero h2.2
    obtain ⟨b, off, rfl, hbw, hmem⟩ := hO.mem hR
    have HN : sqOr nm.data.toList bd l t x y z = (sqLo (bx bd l t) x y z, sqHi (bx bd l t) x y z) := by unfold sqOr; rw [if_pos h]
    rw [HN, h]
    clear HN
    have hok := Lib.hid (bx_ok hR h0 h1)
    have HB := Lib.hid (fun w' (hS' : HasSts w' b off l) (hb' : b < w'.heap.size) => box_any nm bd t b off cap l w' hR h0 h1 hS' hb' hO.cap)
    have HO := Lib.hid hO
    have HP := Lib.hid h2.2
    have hE0 : (firstE [atE nm.data.toList bd l t, placeE x y z] != 0) = false := by rw [show firstE [atE nm.data.toList bd l t, placeE x y z] = 0 from h]; rfl
    clear h hO h0 h1 h2
    generalize atE nm.data.toList bd l t = c at *
    generalize bx bd l t = q at *
    refine Calls.made fun R HR => ?_
    go_enter Tryz.func31, Tryz.ntmps31
    go_wp2_with (first | (go_at_call 73; refine (HA.out _ (HO.out.below (by repeat' first | with_reducible exact Below.refl _ _ | with_reducible assumption | with_reducible refine Free.Grow.alloc ?_ _ | with_reducible refine Free.Grow.setCell ?_ (by first | omega | (simp; done) | (simp; omega)) _ | with_reducible refine Free.Grow.drew ?_ | with_reducible refine Free.Grow.trans ?_ (by assumption)))).mono ?_; rintro e w1 ⟨rfl, hb1⟩; have hc1 := (Free.cells_of hb1).1; have hf1 := (Free.cells_of hb1).2; have hz1 := hb1.size; (try simp only [World.size_alloc, World.size_setCell, World.size_drew] at hz1); (try (have : w.heap.size < w1.heap.size := (by omega))); (try (have : w.heap.size < w1.heap.size + 1 := (by omega))); (try (have : w.heap.size < w1.heap.size + 1 + 1 := (by omega))); (try (have : w.heap.size + 1 < w1.heap.size := (by omega))); (try (have : w.heap.size + 1 < w1.heap.size + 1 := (by omega))); (try (have : w.heap.size + 1 < w1.heap.size + 1 + 1 := (by omega))); (try (have : w.heap.size + 1 + 1 < w1.heap.size := (by omega))); (try (have : w.heap.size + 1 + 1 < w1.heap.size + 1 := (by omega))); (try (have : w.heap.size + 1 + 1 < w1.heap.size + 1 + 1 := (by omega))); (try (have : w.heap.size + 1 + 1 + 1 < w1.heap.size := (by omega))); (try (have : w.heap.size + 1 + 1 + 1 < w1.heap.size + 1 := (by omega))); (try (have : w.heap.size + 1 + 1 + 1 < w1.heap.size + 1 + 1 := (by omega)))) | (go_at_call 74; refine (checkPlace_any _ _ _ _).mono ?_; rintro e w2 ⟨rfl, hb2⟩; have hc2 := (Free.cells_of hb2).1; have hf2 := (Free.cells_of hb2).2; have hz2 := hb2.size; (try simp only [World.size_alloc, World.size_setCell, World.size_drew] at hz2); (try (have : w.heap.size < w2.heap.size := (by omega))); (try (have : w.heap.size < w2.heap.size + 1 := (by omega))); (try (have : w.heap.size < w2.heap.size + 1 + 1 := (by omega))); (try (have : w.heap.size + 1 < w2.heap.size := (by omega))); (try (have : w.heap.size + 1 < w2.heap.size + 1 := (by omega))); (try (have : w.heap.size + 1 < w2.heap.size + 1 + 1 := (by omega))); (try (have : w.heap.size + 1 + 1 < w2.heap.size := (by omega))); (try (have : w.heap.size + 1 + 1 < w2.heap.size + 1 := (by omega))); (try (have : w.heap.size + 1 + 1 < w2.heap.size + 1 + 1 := (by omega))); (try (have : w.heap.size + 1 + 1 + 1 < w2.heap.size := (by omega))); (try (have : w.heap.size + 1 + 1 + 1 < w2.heap.size + 1 := (by omega))); (try (have : w.heap.size + 1 + 1 + 1 < w2.heap.size + 1 + 1 := (by omega))); (try (have : w1.heap.size < w2.heap.size := (by omega))); (try (have : w1.heap.size < w2.heap.size + 1 := (by omega))); (try (have : w1.heap.size < w2.heap.size + 1 + 1 := (by omega))); (try (have : w1.heap.size + 1 < w2.heap.size := (by omega))); (try (have : w1.heap.size + 1 < w2.heap.size + 1 := (by omega))); (try (have : w1.heap.size + 1 < w2.heap.size + 1 + 1 := (by omega))); (try (have : w1.heap.size + 1 + 1 < w2.heap.size := (by omega))); (try (have : w1.heap.size + 1 + 1 < w2.heap.size + 1 := (by omega))); (try (have : w1.heap.size + 1 + 1 < w2.heap.size + 1 + 1 := (by omega))); (try (have : w1.heap.size + 1 + 1 + 1 < w2.heap.size := (by omega))); (try (have : w1.heap.size + 1 + 1 + 1 < w2.heap.size + 1 := (by omega))); (try (have : w1.heap.size + 1 + 1 + 1 < w2.heap.size + 1 + 1 := (by omega)))) | (go_at_call 63; refine (first2_any _ c (placeE x y z) _ (by simp [go_sem]) (by simp [go_sem])).mono ?_; rintro e w' ⟨rfl, rfl⟩))
    refine Free.wp_region 6 #[0, 0, 3, 0, 15, 31, 63, 127] (by kernel_rfl) (by kernel_rfl) ?_
    simp only [List.take_succ_cons, List.take_zero]
    iterate 6
      refine Free.E.q (by rfl) ?_
      apply Exists.intro
      refine ⟨fun u w' hc hb => ?_, ?_⟩
      go_simp
      (try go_ints); (try simp only [Ob.ite_imx, Ob.ite_imn]); first | exact rfl | (go_simp; exact rfl) | ((go_at_call 69; exact HB.out _ (hmem.below (B := w.heap.size) (by repeat' first | with_reducible exact Below.refl _ _ | with_reducible assumption | with_reducible refine Free.Grow.alloc ?_ _ | with_reducible refine Free.Grow.setCell ?_ (by first | omega | (simp; done) | (simp; omega)) _ | with_reducible refine Free.Grow.drew ?_ | with_reducible refine Free.Grow.trans ?_ (by assumption)) hbw) (by have := hb.size; simp at this; omega))) | ((go_at_call 76; exact vectorOf_any _ _ _ _)) | ((go_at_call 75; exact squares_any _ _ _ _ _ hok.out (by omega) (by omega) (by omega) (by omega) (by omega) (by omega))) | (simp only [↓IntWalk.iteOmega]; (try go_simp); exact rfl)
      simp only [Act.put, List.setIfInBounds_toArray, List.set_cons_zero, List.set_cons_succ, List.nil_append, List.cons_append]
    refine Free.E.nil (fun u w3 S hF => ?_)
    have hb3 := hF.below
    clear hF
    have hc3 := (Free.cells_of hb3).1
    have hf3 := (Free.cells_of hb3).2
    have hz3 := hb3.size
    try simp only [World.size_alloc, World.size_setCell, World.size_drew] at hz3
    (try (have : w.heap.size < w3.heap.size := (by omega)))
    (try (have : w.heap.size < w3.heap.size + 1 := (by omega)))
    (try (have : w.heap.size < w3.heap.size + 1 + 1 := (by omega)))
    (try (have : w.heap.size + 1 < w3.heap.size := (by omega)))
    (try (have : w.heap.size + 1 < w3.heap.size + 1 := (by omega)))
    (try (have : w.heap.size + 1 < w3.heap.size + 1 + 1 := (by omega)))
    (try (have : w.heap.size + 1 + 1 < w3.heap.size := (by omega)))
    (try (have : w.heap.size + 1 + 1 < w3.heap.size + 1 := (by omega)))
    (try (have : w.heap.size + 1 + 1 < w3.heap.size + 1 + 1 := (by omega)))
    (try (have : w.heap.size + 1 + 1 + 1 < w3.heap.size := (by omega)))
    (try (have : w.heap.size + 1 + 1 + 1 < w3.heap.size + 1 := (by omega)))
    (try (have : w.heap.size + 1 + 1 + 1 < w3.heap.size + 1 + 1 := (by omega)))
    (try (have : w1.heap.size < w3.heap.size := (by omega)))
    (try (have : w1.heap.size < w3.heap.size + 1 := (by omega)))
    (try (have : w1.heap.size < w3.heap.size + 1 + 1 := (by omega)))
    (try (have : w1.heap.size + 1 < w3.heap.size := (by omega)))
    (try (have : w1.heap.size + 1 < w3.heap.size + 1 := (by omega)))
    (try (have : w1.heap.size + 1 < w3.heap.size + 1 + 1 := (by omega)))
    (try (have : w1.heap.size + 1 + 1 < w3.heap.size := (by omega)))
    (try (have : w1.heap.size + 1 + 1 < w3.heap.size + 1 := (by omega)))
    (try (have : w1.heap.size + 1 + 1 < w3.heap.size + 1 + 1 := (by omega)))
    (try (have : w1.heap.size + 1 + 1 + 1 < w3.heap.size := (by omega)))
    (try (have : w1.heap.size + 1 + 1 + 1 < w3.heap.size + 1 := (by omega)))
    (try (have : w1.heap.size + 1 + 1 + 1 < w3.heap.size + 1 + 1 := (by omega)))
    (try (have : w2.heap.size < w3.heap.size := (by omega)))
    (try (have : w2.heap.size < w3.heap.size + 1 := (by omega)))
    (try (have : w2.heap.size < w3.heap.size + 1 + 1 := (by omega)))
    (try (have : w2.heap.size + 1 < w3.heap.size := (by omega)))
    (try (have : w2.heap.size + 1 < w3.heap.size + 1 := (by omega)))
    (try (have : w2.heap.size + 1 < w3.heap.size + 1 + 1 := (by omega)))
    (try (have : w2.heap.size + 1 + 1 < w3.heap.size := (by omega)))
    (try (have : w2.heap.size + 1 + 1 < w3.heap.size + 1 := (by omega)))
    (try (have : w2.heap.size + 1 + 1 < w3.heap.size + 1 + 1 := (by omega)))
    (try (have : w2.heap.size + 1 + 1 + 1 < w3.heap.size := (by omega)))
    (try (have : w2.heap.size + 1 + 1 + 1 < w3.heap.size + 1 := (by omega)))
    (try (have : w2.heap.size + 1 + 1 + 1 < w3.heap.size + 1 + 1 := (by omega)))
    simp only [List.drop_succ_cons, List.drop_zero, List.drop_nil]
    repeat (first | go_skip | go_guarded | go_step)
    refine bodyPost_ret (v := .tuple #[.agg #[.int .i64 (sqLo q x y z), .int .i64 (sqHi q x y z)], .int .i64 0]) (by simp [results, Tryz.results31, go_sem, *]) rfl ?_
    exact HR.out _ (by repeat' first | with_reducible exact Below.refl _ _ | with_reducible assumption | with_reducible refine Free.Grow.alloc ?_ _ | with_reducible refine Free.Grow.setCell ?_ (by first | omega | (simp; done) | (simp; omega)) _ | with_reducible refine Free.Grow.drew ?_ | with_reducible refine Free.Grow.trans ?_ (by assumption))
  · have HN : sqOr nm.data.toList bd l t x y z = (0, 0) := by unfold sqOr; rw [if_neg h]
    rw [HN]
    clear HN
    have hE0 : (firstE [atE nm.data.toList bd l t, placeE x y z] != 0) = true := by simpa [sqE] using h
    have HO := Lib.hid hO
    unfold sqE
    clear h hO
    generalize atE nm.data.toList bd l t = c at *
    refine Calls.made fun R HR => ?_
    go_enter Tryz.func31, Tryz.ntmps31
    go_wp2_with (first | (go_at_call 73; refine (HA.out _ (HO.out.below (by repeat' first | with_reducible exact Below.refl _ _ | with_reducible assumption | with_reducible refine Free.Grow.alloc ?_ _ | with_reducible refine Free.Grow.setCell ?_ (by first | omega | (simp; done) | (simp; omega)) _ | with_reducible refine Free.Grow.drew ?_ | with_reducible refine Free.Grow.trans ?_ (by assumption)))).mono ?_; rintro e w1 ⟨rfl, hb1⟩; have hc1 := (Free.cells_of hb1).1; have hf1 := (Free.cells_of hb1).2; have hz1 := hb1.size; (try simp only [World.size_alloc, World.size_setCell, World.size_drew] at hz1); (try (have : w.heap.size < w1.heap.size := (by omega))); (try (have : w.heap.size < w1.heap.size + 1 := (by omega))); (try (have : w.heap.size < w1.heap.size + 1 + 1 := (by omega))); (try (have : w.heap.size + 1 < w1.heap.size := (by omega))); (try (have : w.heap.size + 1 < w1.heap.size + 1 := (by omega))); (try (have : w.heap.size + 1 < w1.heap.size + 1 + 1 := (by omega))); (try (have : w.heap.size + 1 + 1 < w1.heap.size := (by omega))); (try (have : w.heap.size + 1 + 1 < w1.heap.size + 1 := (by omega))); (try (have : w.heap.size + 1 + 1 < w1.heap.size + 1 + 1 := (by omega))); (try (have : w.heap.size + 1 + 1 + 1 < w1.heap.size := (by omega))); (try (have : w.heap.size + 1 + 1 + 1 < w1.heap.size + 1 := (by omega))); (try (have : w.heap.size + 1 + 1 + 1 < w1.heap.size + 1 + 1 := (by omega)))) | (go_at_call 74; refine (checkPlace_any _ _ _ _).mono ?_; rintro e w2 ⟨rfl, hb2⟩; have hc2 := (Free.cells_of hb2).1; have hf2 := (Free.cells_of hb2).2; have hz2 := hb2.size; (try simp only [World.size_alloc, World.size_setCell, World.size_drew] at hz2); (try (have : w.heap.size < w2.heap.size := (by omega))); (try (have : w.heap.size < w2.heap.size + 1 := (by omega))); (try (have : w.heap.size < w2.heap.size + 1 + 1 := (by omega))); (try (have : w.heap.size + 1 < w2.heap.size := (by omega))); (try (have : w.heap.size + 1 < w2.heap.size + 1 := (by omega))); (try (have : w.heap.size + 1 < w2.heap.size + 1 + 1 := (by omega))); (try (have : w.heap.size + 1 + 1 < w2.heap.size := (by omega))); (try (have : w.heap.size + 1 + 1 < w2.heap.size + 1 := (by omega))); (try (have : w.heap.size + 1 + 1 < w2.heap.size + 1 + 1 := (by omega))); (try (have : w.heap.size + 1 + 1 + 1 < w2.heap.size := (by omega))); (try (have : w.heap.size + 1 + 1 + 1 < w2.heap.size + 1 := (by omega))); (try (have : w.heap.size + 1 + 1 + 1 < w2.heap.size + 1 + 1 := (by omega))); (try (have : w1.heap.size < w2.heap.size := (by omega))); (try (have : w1.heap.size < w2.heap.size + 1 := (by omega))); (try (have : w1.heap.size < w2.heap.size + 1 + 1 := (by omega))); (try (have : w1.heap.size + 1 < w2.heap.size := (by omega))); (try (have : w1.heap.size + 1 < w2.heap.size + 1 := (by omega))); (try (have : w1.heap.size + 1 < w2.heap.size + 1 + 1 := (by omega))); (try (have : w1.heap.size + 1 + 1 < w2.heap.size := (by omega))); (try (have : w1.heap.size + 1 + 1 < w2.heap.size + 1 := (by omega))); (try (have : w1.heap.size + 1 + 1 < w2.heap.size + 1 + 1 := (by omega))); (try (have : w1.heap.size + 1 + 1 + 1 < w2.heap.size := (by omega))); (try (have : w1.heap.size + 1 + 1 + 1 < w2.heap.size + 1 := (by omega))); (try (have : w1.heap.size + 1 + 1 + 1 < w2.heap.size + 1 + 1 := (by omega)))) | (go_at_call 63; refine (first2_any _ c (placeE x y z) _ (by simp [go_sem]) (by simp [go_sem])).mono ?_; rintro e w' ⟨rfl, rfl⟩))
    refine bodyPost_ret (v := .tuple #[.agg #[.int .i64 0, .int .i64 0], .int .i64 (firstE [c, placeE x y z])]) (by simp [results, Tryz.results31, go_sem, *]) rfl ?_
    exact HR.out _ (by repeat' first | with_reducible exact Below.refl _ _ | with_reducible assumption | with_reducible refine Free.Grow.alloc ?_ _ | with_reducible refine Free.Grow.setCell ?_ (by first | omega | (simp; done) | (simp; omega)) _ | with_reducible refine Free.Grow.drew ?_ | with_reducible refine Free.Grow.trans ?_ (by assumption))
end Go.Proofs.YthhhkjbhhjcjoaaGreatDoor
