/- Chapter 2: paths, ticks, roots, divisors of the program. -/
import Derived.Test.YthhhkjbhhjcjoaaGreatDoor02d
import Derived.Test.YthhhkjbhhjcjoaaGreatDoor02Spec
set_option linter.unusedSimpArgs false
set_option linter.unusedVariables false
namespace Go.Proofs.YthhhkjbhhjcjoaaGreatDoor
open Go.RowKit Go.Ob

set_option maxRecDepth 100000 in
set_option maxHeartbeats 1000000 in
theorem pathOf_any (nm : ByteArray) (bd : Int) (a : Option Addr) (cap : Nat) (l : List St) (w : World) (hnm : nm.size ≤ 1000) (hS : SlSts w a l) (hcap : l.length ≤ cap) (hl : (l.length : Int) ≤ 9223372036854775807) :
    Calls Tryz.prog 62 #[obV nm bd a l.length cap] w fun e w' => e = .returned (.tuple #[obV nm bd a l.length cap, .int .i64 (orbE nm.data.toList bd l).2]) ∧ Below w.heap.size w w' := by
  go_enter Tryz.func62, Tryz.ntmps62
  go_wp2_with (go_at_call 47; refine (CheckOrbit_any nm bd a cap l _ hnm (hS.below (by repeat' first | with_reducible exact Below.refl _ _ | with_reducible assumption | with_reducible refine Free.Grow.alloc ?_ _ | with_reducible refine Free.Grow.setCell ?_ (by first | omega | (simp; done) | (simp; omega)) _ | with_reducible refine Free.Grow.drew ?_ | with_reducible refine Free.Grow.trans ?_ (by assumption))) hcap hl).mono ?_; rintro e w1 ⟨rfl, hb1⟩; have hc1 := (Free.cells_of hb1).1; have hf1 := (Free.cells_of hb1).2; have hz1 := hb1.size; (try simp only [World.size_alloc, World.size_setCell, World.size_drew] at hz1); (try (have : w.heap.size < w1.heap.size := (by omega))); (try (have : w.heap.size < w1.heap.size + 1 := (by omega))); (try (have : w.heap.size < w1.heap.size + 1 + 1 := (by omega))); (try (have : w.heap.size + 1 < w1.heap.size := (by omega))); (try (have : w.heap.size + 1 < w1.heap.size + 1 := (by omega))); (try (have : w.heap.size + 1 < w1.heap.size + 1 + 1 := (by omega))); (try (have : w.heap.size + 1 + 1 < w1.heap.size := (by omega))); (try (have : w.heap.size + 1 + 1 < w1.heap.size + 1 := (by omega))); (try (have : w.heap.size + 1 + 1 < w1.heap.size + 1 + 1 := (by omega))); (try (have : w.heap.size + 1 + 1 + 1 < w1.heap.size := (by omega))); (try (have : w.heap.size + 1 + 1 + 1 < w1.heap.size + 1 := (by omega))); (try (have : w.heap.size + 1 + 1 + 1 < w1.heap.size + 1 + 1 := (by omega))))
  refine bodyPost_ret (v := .tuple #[obV nm bd a l.length cap, .int .i64 (orbE nm.data.toList bd l).2]) (by simp [results, Tryz.results62, go_sem, *]) rfl ?_
  exact ⟨rfl, by repeat' first | with_reducible exact Below.refl _ _ | with_reducible assumption | with_reducible refine Free.Grow.alloc ?_ _ | with_reducible refine Free.Grow.setCell ?_ (by first | omega | (simp; done) | (simp; omega)) _ | with_reducible refine Free.Grow.drew ?_ | with_reducible refine Free.Grow.trans ?_ (by assumption)⟩

set_option maxRecDepth 100000 in
set_option maxHeartbeats 1000000 in
theorem ticks_any (nm : ByteArray) (bd : Int) (b off cap : Nat) (l : List St) (w : World) (hS : HasSts w b off l) (hbw : b < w.heap.size) (h1 : 1 ≤ l.length) (h2 : l.length ≤ 1000) (hcap : l.length ≤ cap) :
    Calls Tryz.prog 64 #[obV nm bd (some ⟨b, off, none⟩) l.length cap] w fun e w' => e = .returned (.agg #[.int .i64 (frstT l), .int .i64 (lastT l)]) ∧ Below w.heap.size w w' := by
  obtain ⟨c0, -⟩ := hS 0 (by omega)
  obtain ⟨c1, -⟩ := hS (l.length - 1) (by omega)
  simp only [Nat.zero_mul, Nat.add_zero] at c0
  have hf : Hid (at_ l 0 = at_ l 0) := rfl
  have : b < w.heap.size := (by omega); have : b < w.heap.size + 1 := (by omega); have : b < w.heap.size + 1 + 1 := (by omega)
  have h0 : 0 < l.length := h1
  have h3 : (1 : Int) ≤ l.length := by omega
  have h4 : (l.length : Int) ≤ 1000 := by omega
  have h5 : ((l.length : Int) - 1).toNat = l.length - 1 := by omega
  go_enter Tryz.func64, Tryz.ntmps64
  go_wp2
  refine Free.wp_region 18 #[0, 1, 3, 7, 15, 31, 0, 64, 192, 0, 512, 1536, 3584, 7680, 16320, 32704, 65472, 131071, 262143] (by kernel_rfl) (by kernel_rfl) ?_
  simp only [List.take_succ_cons, List.take_zero]
  iterate 18
    refine Free.E.q (by rfl) ?_
    apply Exists.intro
    refine ⟨fun u w' hc hb => ?_, ?_⟩
    go_simp
    (try go_ints); (try simp only [Ob.ite_imx, Ob.ite_imn]); first | exact rfl | (go_simp; exact rfl) | (simp only [↓IntWalk.iteOmega]; (try go_simp); exact rfl)
    simp only [Act.put, List.setIfInBounds_toArray, List.set_cons_zero, List.set_cons_succ, List.nil_append, List.cons_append]
  refine Free.E.nil (fun u w1 S hF => ?_)
  have hb1 := hF.below
  clear hF
  have hc1 := (Free.cells_of hb1).1
  have hf1 := (Free.cells_of hb1).2
  have hz1 := hb1.size
  try simp only [World.size_alloc, World.size_setCell, World.size_drew] at hz1
  (try (have : w.heap.size < w1.heap.size := (by omega)))
  (try (have : w.heap.size < w1.heap.size + 1 := (by omega)))
  (try (have : w.heap.size < w1.heap.size + 1 + 1 := (by omega)))
  (try (have : w.heap.size + 1 < w1.heap.size := (by omega)))
  (try (have : w.heap.size + 1 < w1.heap.size + 1 := (by omega)))
  (try (have : w.heap.size + 1 < w1.heap.size + 1 + 1 := (by omega)))
  (try (have : w.heap.size + 1 + 1 < w1.heap.size := (by omega)))
  (try (have : w.heap.size + 1 + 1 < w1.heap.size + 1 := (by omega)))
  (try (have : w.heap.size + 1 + 1 < w1.heap.size + 1 + 1 := (by omega)))
  (try (have : w.heap.size + 1 + 1 + 1 < w1.heap.size := (by omega)))
  (try (have : w.heap.size + 1 + 1 + 1 < w1.heap.size + 1 := (by omega)))
  (try (have : w.heap.size + 1 + 1 + 1 < w1.heap.size + 1 + 1 := (by omega)))
  simp only [List.drop_succ_cons, List.drop_zero, List.drop_nil]
  go_wp2
  refine bodyPost_ret (v := .agg #[.int .i64 (at_ l 0).t, .int .i64 (at_ l (l.length - 1)).t]) (by simp [results, Tryz.results64, go_sem, *]) rfl ?_
  exact ⟨rfl, by repeat' first | with_reducible exact Below.refl _ _ | with_reducible assumption | with_reducible refine Free.Grow.alloc ?_ _ | with_reducible refine Free.Grow.setCell ?_ (by first | omega | (simp; done) | (simp; omega)) _ | with_reducible refine Free.Grow.drew ?_ | with_reducible refine Free.Grow.trans ?_ (by assumption)⟩

set_option maxRecDepth 100000 in
set_option maxHeartbeats 1000000 in
theorem has_any (nm : ByteArray) (bd t : Int) (b off cap : Nat) (l : List St) (w : World) (hS : HasSts w b off l) (hbw : b < w.heap.size) (h1 : 1 ≤ l.length) (h2 : l.length ≤ 1000) (hcap : l.length ≤ cap) :
    Calls Tryz.prog 108 #[obV nm bd (some ⟨b, off, none⟩) l.length cap, .int .i64 t] w fun e w' => e = .returned (.bool (rngB t (frstT l) (lastT l))) ∧ Below w.heap.size w w' := by
  go_enter Tryz.func108, Tryz.ntmps108
  go_wp2
  refine Free.wp_region 9 #[0, 0, 2, 6, 0, 22, 54, 127, 255] (by kernel_rfl) (by kernel_rfl) ?_
  simp only [List.take_succ_cons, List.take_zero]
  iterate 9
    refine Free.E.q (by rfl) ?_
    apply Exists.intro
    refine ⟨fun u w' hc hb => ?_, ?_⟩
    go_simp
    (try go_ints); (try simp only [Ob.ite_imx, Ob.ite_imn]); first | exact rfl | (go_simp; exact rfl) | ((go_at_call 64; exact ticks_any nm bd b off cap l _ (hS.below (by repeat' first | with_reducible exact Below.refl _ _ | with_reducible assumption | with_reducible refine Free.Grow.alloc ?_ _ | with_reducible refine Free.Grow.setCell ?_ (by first | omega | (simp; done) | (simp; omega)) _ | with_reducible refine Free.Grow.drew ?_ | with_reducible refine Free.Grow.trans ?_ (by assumption)) hbw) (by have := hb.size; simp at this; omega) h1 h2 hcap)) | ((go_at_call 59; exact Free.Calls.grow (within_any _ _ _ _))) | (simp only [↓IntWalk.iteOmega]; (try go_simp); exact rfl)
    simp only [Act.put, List.setIfInBounds_toArray, List.set_cons_zero, List.set_cons_succ, List.nil_append, List.cons_append]
  refine Free.E.nil (fun u w1 S hF => ?_)
  have hb1 := hF.below
  clear hF
  have hc1 := (Free.cells_of hb1).1
  have hf1 := (Free.cells_of hb1).2
  have hz1 := hb1.size
  try simp only [World.size_alloc, World.size_setCell, World.size_drew] at hz1
  (try (have : w.heap.size < w1.heap.size := (by omega)))
  (try (have : w.heap.size < w1.heap.size + 1 := (by omega)))
  (try (have : w.heap.size < w1.heap.size + 1 + 1 := (by omega)))
  (try (have : w.heap.size + 1 < w1.heap.size := (by omega)))
  (try (have : w.heap.size + 1 < w1.heap.size + 1 := (by omega)))
  (try (have : w.heap.size + 1 < w1.heap.size + 1 + 1 := (by omega)))
  (try (have : w.heap.size + 1 + 1 < w1.heap.size := (by omega)))
  (try (have : w.heap.size + 1 + 1 < w1.heap.size + 1 := (by omega)))
  (try (have : w.heap.size + 1 + 1 < w1.heap.size + 1 + 1 := (by omega)))
  (try (have : w.heap.size + 1 + 1 + 1 < w1.heap.size := (by omega)))
  (try (have : w.heap.size + 1 + 1 + 1 < w1.heap.size + 1 := (by omega)))
  (try (have : w.heap.size + 1 + 1 + 1 < w1.heap.size + 1 + 1 := (by omega)))
  simp only [List.drop_succ_cons, List.drop_zero, List.drop_nil]
  go_wp2_with (go_at_call 59; refine (within_any _ _ _ _).mono ?_; rintro e w' ⟨rfl, rfl⟩)
  go_ret
  exact ⟨rfl, by repeat' first | with_reducible exact Below.refl _ _ | with_reducible assumption | with_reducible refine Free.Grow.alloc ?_ _ | with_reducible refine Free.Grow.setCell ?_ (by first | omega | (simp; done) | (simp; omega)) _ | with_reducible refine Free.Grow.drew ?_ | with_reducible refine Free.Grow.trans ?_ (by assumption)⟩

set_option maxRecDepth 100000 in
set_option maxHeartbeats 1000000 in
theorem at_any (nm : ByteArray) (bd t : Int) (a : Option Addr) (cap : Nat) (l : List St) (w : World) (hnm : nm.size ≤ 1000) (hS : SlSts w a l) (hcap : l.length ≤ cap) (hl : (l.length : Int) ≤ 9223372036854775807) :
    Calls Tryz.prog 73 #[obV nm bd a l.length cap, .int .i64 t] w fun e w' => e = .returned (.tuple #[obV nm bd a l.length cap, .int .i64 (atE nm.data.toList bd l t)]) ∧ Below w.heap.size w w' := by
  by_cases h : (orbE nm.data.toList bd l).2 = 0
  · obtain ⟨hR, -⟩ := orbE_right h
    have hn2 := hR.n2
    have hn40 := hR.n40
    obtain ⟨b, off, rfl, hbw, hmem⟩ := hS.mem (by intro e; rw [e] at hn2; simp at hn2)
    have h0 : ((orbE nm.data.toList bd l).2 == 0) = true := by simp [h]
    have HH := Lib.hid h
    clear h
    cases hr : rngB t (frstT l) (lastT l) with
    | true =>
      have H : Hid (atE nm.data.toList bd l t = (orbE nm.data.toList bd l).2) := by unfold Hid atE; rw [if_neg (by simp [HH.out]), if_pos (rngB_true.1 hr), HH.out]
      go_enter Tryz.func73, Tryz.ntmps73
      go_wp2_with (first | (go_at_call 62; refine (pathOf_any nm bd _ cap l _ hnm (hS.below (by repeat' first | with_reducible exact Below.refl _ _ | with_reducible assumption | with_reducible refine Free.Grow.alloc ?_ _ | with_reducible refine Free.Grow.setCell ?_ (by first | omega | (simp; done) | (simp; omega)) _ | with_reducible refine Free.Grow.drew ?_ | with_reducible refine Free.Grow.trans ?_ (by assumption))) hcap hl).mono ?_; rintro e w1 ⟨rfl, hb1⟩; have hc1 := (Free.cells_of hb1).1; have hf1 := (Free.cells_of hb1).2; have hz1 := hb1.size; (try simp only [World.size_alloc, World.size_setCell, World.size_drew] at hz1); (try (have : w.heap.size < w1.heap.size := (by omega))); (try (have : w.heap.size < w1.heap.size + 1 := (by omega))); (try (have : w.heap.size < w1.heap.size + 1 + 1 := (by omega))); (try (have : w.heap.size + 1 < w1.heap.size := (by omega))); (try (have : w.heap.size + 1 < w1.heap.size + 1 := (by omega))); (try (have : w.heap.size + 1 < w1.heap.size + 1 + 1 := (by omega))); (try (have : w.heap.size + 1 + 1 < w1.heap.size := (by omega))); (try (have : w.heap.size + 1 + 1 < w1.heap.size + 1 := (by omega))); (try (have : w.heap.size + 1 + 1 < w1.heap.size + 1 + 1 := (by omega))); (try (have : w.heap.size + 1 + 1 + 1 < w1.heap.size := (by omega))); (try (have : w.heap.size + 1 + 1 + 1 < w1.heap.size + 1 := (by omega))); (try (have : w.heap.size + 1 + 1 + 1 < w1.heap.size + 1 + 1 := (by omega)))) | (go_at_call 108; refine (has_any nm bd t b off cap l _ (hmem.below (B := w.heap.size) (by repeat' first | with_reducible exact Below.refl _ _ | with_reducible assumption | with_reducible refine Free.Grow.alloc ?_ _ | with_reducible refine Free.Grow.setCell ?_ (by first | omega | (simp; done) | (simp; omega)) _ | with_reducible refine Free.Grow.drew ?_ | with_reducible refine Free.Grow.trans ?_ (by assumption)) hbw) (by simp; omega) (by omega) (by omega) hcap).mono ?_; rintro e w2 ⟨rfl, hb2⟩; have hc2 := (Free.cells_of hb2).1; have hf2 := (Free.cells_of hb2).2; have hz2 := hb2.size; (try simp only [World.size_alloc, World.size_setCell, World.size_drew] at hz2); (try (have : w.heap.size < w2.heap.size := (by omega))); (try (have : w.heap.size < w2.heap.size + 1 := (by omega))); (try (have : w.heap.size < w2.heap.size + 1 + 1 := (by omega))); (try (have : w.heap.size + 1 < w2.heap.size := (by omega))); (try (have : w.heap.size + 1 < w2.heap.size + 1 := (by omega))); (try (have : w.heap.size + 1 < w2.heap.size + 1 + 1 := (by omega))); (try (have : w.heap.size + 1 + 1 < w2.heap.size := (by omega))); (try (have : w.heap.size + 1 + 1 < w2.heap.size + 1 := (by omega))); (try (have : w.heap.size + 1 + 1 < w2.heap.size + 1 + 1 := (by omega))); (try (have : w.heap.size + 1 + 1 + 1 < w2.heap.size := (by omega))); (try (have : w.heap.size + 1 + 1 + 1 < w2.heap.size + 1 := (by omega))); (try (have : w.heap.size + 1 + 1 + 1 < w2.heap.size + 1 + 1 := (by omega))); (try (have : w1.heap.size < w2.heap.size := (by omega))); (try (have : w1.heap.size < w2.heap.size + 1 := (by omega))); (try (have : w1.heap.size < w2.heap.size + 1 + 1 := (by omega))); (try (have : w1.heap.size + 1 < w2.heap.size := (by omega))); (try (have : w1.heap.size + 1 < w2.heap.size + 1 := (by omega))); (try (have : w1.heap.size + 1 < w2.heap.size + 1 + 1 := (by omega))); (try (have : w1.heap.size + 1 + 1 < w2.heap.size := (by omega))); (try (have : w1.heap.size + 1 + 1 < w2.heap.size + 1 := (by omega))); (try (have : w1.heap.size + 1 + 1 < w2.heap.size + 1 + 1 := (by omega))); (try (have : w1.heap.size + 1 + 1 + 1 < w2.heap.size := (by omega))); (try (have : w1.heap.size + 1 + 1 + 1 < w2.heap.size + 1 := (by omega))); (try (have : w1.heap.size + 1 + 1 + 1 < w2.heap.size + 1 + 1 := (by omega)))))
      refine bodyPost_ret (v := .tuple #[obV nm bd (some ⟨b, off, none⟩) l.length cap, .int .i64 (orbE nm.data.toList bd l).2]) (by simp [results, Tryz.results73, go_sem, *]) rfl ?_
      exact ⟨by rw [H.out], by repeat' first | with_reducible exact Below.refl _ _ | with_reducible assumption | with_reducible refine Free.Grow.alloc ?_ _ | with_reducible refine Free.Grow.setCell ?_ (by first | omega | (simp; done) | (simp; omega)) _ | with_reducible refine Free.Grow.drew ?_ | with_reducible refine Free.Grow.trans ?_ (by assumption)⟩
    | false =>
      have H : Hid (atE nm.data.toList bd l t = 2) := by unfold Hid atE; rw [if_neg (by simp [HH.out]), if_neg (rngB_false.1 hr)]
      go_enter Tryz.func73, Tryz.ntmps73
      go_wp2_with (first | (go_at_call 62; refine (pathOf_any nm bd _ cap l _ hnm (hS.below (by repeat' first | with_reducible exact Below.refl _ _ | with_reducible assumption | with_reducible refine Free.Grow.alloc ?_ _ | with_reducible refine Free.Grow.setCell ?_ (by first | omega | (simp; done) | (simp; omega)) _ | with_reducible refine Free.Grow.drew ?_ | with_reducible refine Free.Grow.trans ?_ (by assumption))) hcap hl).mono ?_; rintro e w1 ⟨rfl, hb1⟩; have hc1 := (Free.cells_of hb1).1; have hf1 := (Free.cells_of hb1).2; have hz1 := hb1.size; (try simp only [World.size_alloc, World.size_setCell, World.size_drew] at hz1); (try (have : w.heap.size < w1.heap.size := (by omega))); (try (have : w.heap.size < w1.heap.size + 1 := (by omega))); (try (have : w.heap.size < w1.heap.size + 1 + 1 := (by omega))); (try (have : w.heap.size + 1 < w1.heap.size := (by omega))); (try (have : w.heap.size + 1 < w1.heap.size + 1 := (by omega))); (try (have : w.heap.size + 1 < w1.heap.size + 1 + 1 := (by omega))); (try (have : w.heap.size + 1 + 1 < w1.heap.size := (by omega))); (try (have : w.heap.size + 1 + 1 < w1.heap.size + 1 := (by omega))); (try (have : w.heap.size + 1 + 1 < w1.heap.size + 1 + 1 := (by omega))); (try (have : w.heap.size + 1 + 1 + 1 < w1.heap.size := (by omega))); (try (have : w.heap.size + 1 + 1 + 1 < w1.heap.size + 1 := (by omega))); (try (have : w.heap.size + 1 + 1 + 1 < w1.heap.size + 1 + 1 := (by omega)))) | (go_at_call 108; refine (has_any nm bd t b off cap l _ (hmem.below (B := w.heap.size) (by repeat' first | with_reducible exact Below.refl _ _ | with_reducible assumption | with_reducible refine Free.Grow.alloc ?_ _ | with_reducible refine Free.Grow.setCell ?_ (by first | omega | (simp; done) | (simp; omega)) _ | with_reducible refine Free.Grow.drew ?_ | with_reducible refine Free.Grow.trans ?_ (by assumption)) hbw) (by simp; omega) (by omega) (by omega) hcap).mono ?_; rintro e w2 ⟨rfl, hb2⟩; have hc2 := (Free.cells_of hb2).1; have hf2 := (Free.cells_of hb2).2; have hz2 := hb2.size; (try simp only [World.size_alloc, World.size_setCell, World.size_drew] at hz2); (try (have : w.heap.size < w2.heap.size := (by omega))); (try (have : w.heap.size < w2.heap.size + 1 := (by omega))); (try (have : w.heap.size < w2.heap.size + 1 + 1 := (by omega))); (try (have : w.heap.size + 1 < w2.heap.size := (by omega))); (try (have : w.heap.size + 1 < w2.heap.size + 1 := (by omega))); (try (have : w.heap.size + 1 < w2.heap.size + 1 + 1 := (by omega))); (try (have : w.heap.size + 1 + 1 < w2.heap.size := (by omega))); (try (have : w.heap.size + 1 + 1 < w2.heap.size + 1 := (by omega))); (try (have : w.heap.size + 1 + 1 < w2.heap.size + 1 + 1 := (by omega))); (try (have : w.heap.size + 1 + 1 + 1 < w2.heap.size := (by omega))); (try (have : w.heap.size + 1 + 1 + 1 < w2.heap.size + 1 := (by omega))); (try (have : w.heap.size + 1 + 1 + 1 < w2.heap.size + 1 + 1 := (by omega))); (try (have : w1.heap.size < w2.heap.size := (by omega))); (try (have : w1.heap.size < w2.heap.size + 1 := (by omega))); (try (have : w1.heap.size < w2.heap.size + 1 + 1 := (by omega))); (try (have : w1.heap.size + 1 < w2.heap.size := (by omega))); (try (have : w1.heap.size + 1 < w2.heap.size + 1 := (by omega))); (try (have : w1.heap.size + 1 < w2.heap.size + 1 + 1 := (by omega))); (try (have : w1.heap.size + 1 + 1 < w2.heap.size := (by omega))); (try (have : w1.heap.size + 1 + 1 < w2.heap.size + 1 := (by omega))); (try (have : w1.heap.size + 1 + 1 < w2.heap.size + 1 + 1 := (by omega))); (try (have : w1.heap.size + 1 + 1 + 1 < w2.heap.size := (by omega))); (try (have : w1.heap.size + 1 + 1 + 1 < w2.heap.size + 1 := (by omega))); (try (have : w1.heap.size + 1 + 1 + 1 < w2.heap.size + 1 + 1 := (by omega)))))
      refine bodyPost_ret (v := .tuple #[obV nm bd (some ⟨b, off, none⟩) l.length cap, .int .i64 2]) (by simp [results, Tryz.results73, go_sem, *]) rfl ?_
      exact ⟨by rw [H.out], by repeat' first | with_reducible exact Below.refl _ _ | with_reducible assumption | with_reducible refine Free.Grow.alloc ?_ _ | with_reducible refine Free.Grow.setCell ?_ (by first | omega | (simp; done) | (simp; omega)) _ | with_reducible refine Free.Grow.drew ?_ | with_reducible refine Free.Grow.trans ?_ (by assumption)⟩
  · have h0 : ((orbE nm.data.toList bd l).2 == 0) = false := by simp [h]
    have H : Hid (atE nm.data.toList bd l t = (orbE nm.data.toList bd l).2) := by unfold Hid atE; rw [if_pos h]
    clear h
    go_enter Tryz.func73, Tryz.ntmps73
    go_wp2_with (go_at_call 62; refine (pathOf_any nm bd a cap l _ hnm (hS.below (by repeat' first | with_reducible exact Below.refl _ _ | with_reducible assumption | with_reducible refine Free.Grow.alloc ?_ _ | with_reducible refine Free.Grow.setCell ?_ (by first | omega | (simp; done) | (simp; omega)) _ | with_reducible refine Free.Grow.drew ?_ | with_reducible refine Free.Grow.trans ?_ (by assumption))) hcap hl).mono ?_; rintro e w1 ⟨rfl, hb1⟩; have hc1 := (Free.cells_of hb1).1; have hf1 := (Free.cells_of hb1).2; have hz1 := hb1.size; (try simp only [World.size_alloc, World.size_setCell, World.size_drew] at hz1); (try (have : w.heap.size < w1.heap.size := (by omega))); (try (have : w.heap.size < w1.heap.size + 1 := (by omega))); (try (have : w.heap.size < w1.heap.size + 1 + 1 := (by omega))); (try (have : w.heap.size + 1 < w1.heap.size := (by omega))); (try (have : w.heap.size + 1 < w1.heap.size + 1 := (by omega))); (try (have : w.heap.size + 1 < w1.heap.size + 1 + 1 := (by omega))); (try (have : w.heap.size + 1 + 1 < w1.heap.size := (by omega))); (try (have : w.heap.size + 1 + 1 < w1.heap.size + 1 := (by omega))); (try (have : w.heap.size + 1 + 1 < w1.heap.size + 1 + 1 := (by omega))); (try (have : w.heap.size + 1 + 1 + 1 < w1.heap.size := (by omega))); (try (have : w.heap.size + 1 + 1 + 1 < w1.heap.size + 1 := (by omega))); (try (have : w.heap.size + 1 + 1 + 1 < w1.heap.size + 1 + 1 := (by omega))))
    refine bodyPost_ret (v := .tuple #[obV nm bd a l.length cap, .int .i64 (orbE nm.data.toList bd l).2]) (by simp [results, Tryz.results73, go_sem, *]) rfl ?_
    exact ⟨by rw [H.out], by repeat' first | with_reducible exact Below.refl _ _ | with_reducible assumption | with_reducible refine Free.Grow.alloc ?_ _ | with_reducible refine Free.Grow.setCell ?_ (by first | omega | (simp; done) | (simp; omega)) _ | with_reducible refine Free.Grow.drew ?_ | with_reducible refine Free.Grow.trans ?_ (by assumption)⟩

set_option maxRecDepth 100000 in
set_option maxHeartbeats 1000000 in
theorem root_any (n : Int) (w : World) (h0 : 0 ≤ n) (h1 : n ≤ 4000000000000000000) :
    Calls Tryz.prog 71 #[.int .i64 n] w fun e w' => e = .returned (.int .i64 (rt n)) ∧ w = w' := by
  obtain ⟨m, rfl⟩ := Int.eq_ofNat_of_zero_le h0
  go_enter Tryz.func71, Tryz.ntmps71
  go_wp2
  go_loop [3, 4, 5] (fun r b _ => ∃ x y : Nat, r = .int .i64 x ∧ b = .int .i64 y ∧ RtInv m x y ∧ x + 2 * y ≤ 4294967296) (fun _ b _ => (intOf b).toNat)
  case atStart => exact ⟨0, 2147483648, rfl, rfl, RtInv.start (k := 31) (by simp; omega), by omega⟩
  case round =>
    obtain ⟨x, y, rfl, rfl, hI, hxy⟩ := hrel
    have HI := Lib.hid hI
    clear hI
    have hxy' : (x : Int) + 2 * y ≤ 4294967296 := by omega
    by_cases hy : 0 < y
    · by_cases hb : (x : Int) + y ≤ 3000000000
      · have hq : ((x : Int) + y) * (x + y) ≤ 9000000000000000000 := by
          have := Int.mul_le_mul hb hb (by omega) (by omega); omega
        have hq0 : 0 ≤ ((x : Int) + y) * (x + y) := Int.mul_nonneg (by omega) (by omega)
        by_cases hx : ((x : Int) + y) * (x + y) ≤ m
        · have HX : Hid ((x + y) * (x + y) ≤ m) := by unfold Hid; exact_mod_cast hx
          go_wp2
          go_round
          case measure => simp [intOf]; omega
          case rel => exact ⟨x + y, y / 2, by go_num, by go_num, HI.out.take hy HX.out, by omega⟩
        · have HX : Hid (m < (x + y) * (x + y)) := by unfold Hid; exact_mod_cast Int.not_le.1 hx
          go_wp2
          go_round
          case measure => simp [intOf]; omega
          case rel => exact ⟨x, y / 2, rfl, by go_num, HI.out.pass hy HX.out, by omega⟩
      · have HX : Hid (m < (x + y) * (x + y)) := by
          unfold Hid
          have := sq_le (a := 3000000000) (b := x + y) (by omega)
          omega
        go_wp2
        go_round
        case measure => simp [intOf]; omega
        case rel => exact ⟨x, y / 2, rfl, by go_num, HI.out.pass hy HX.out, by omega⟩
    · have hy0 : y = 0 := by omega
      subst hy0
      have HR : Hid (rt (m : Int) = (x : Int)) := by unfold Hid rt; rw [Int.toNat_natCast, HI.out.done]
      go_wp2
      go_ret
      exact ⟨int_eq HR.out.symm, rfl⟩

set_option maxRecDepth 100000 in
set_option maxHeartbeats 1000000 in
theorem rootUp_any (n : Int) (w : World) (h0 : 0 ≤ n) (h1 : n ≤ 4000000000000000000) :
    Calls Tryz.prog 72 #[.int .i64 n] w fun e w' => e = .returned (.int .i64 (rtUp n)) ∧ w = w' := by
  have hs := rt_spec h0
  have hlt := rt_lt (m := 2000000001) h0 (by omega) (by omega)
  have HC : ∀ w : World, Calls Tryz.prog 71 #[.int .i64 n] w fun e w' => e = .returned (.int .i64 (rt n)) ∧ w = w' := fun w => root_any n w h0 h1
  have hup : rtUp n = if rt n * rt n < n then rt n + 1 else rt n := rfl
  rw [hup]
  clear hup
  generalize rt n = r at *
  obtain ⟨hs0, hs1, hs2⟩ := hs
  have hq0 : 0 ≤ r * r := Int.mul_nonneg hs0 hs0
  have HC' := Lib.hid HC
  clear HC hs2
  by_cases hl : r * r < n
  · go_enter Tryz.func72, Tryz.ntmps72
    go_wp2_with (go_at_call 71; refine (HC'.out _).mono ?_; rintro e w' ⟨rfl, rfl⟩)
    go_ret
    exact ⟨rfl, rfl⟩
  · go_enter Tryz.func72, Tryz.ntmps72
    go_wp2_with (go_at_call 71; refine (HC'.out _).mono ?_; rintro e w' ⟨rfl, rfl⟩)
    go_ret
    exact ⟨rfl, rfl⟩
end Go.Proofs.YthhhkjbhhjcjoaaGreatDoor
