/- OrbitNearest: Nearest and MayBeNearest answer as the reference does; the nearest tick is among those that may be nearest, and CheckNearest grants the proof. -/
import Derived.Test.Ytaoennekamlfeaa02N
import Derived.Test.Ytaoennekamlfeaa02P
import Derived.Test.Ytaoennekamlfeaa02R
import Derived.Test.Ytaoennekamlfeaa02E
import Derived.Test.Ytaoennekamlfeaa02CopyR
set_option linter.unusedSimpArgs false
set_option linter.unusedVariables false
namespace Go.Proofs.Ytaoennekamlfeaa.OrbitNearest
open Go.ChangeShapes Go.WideShapes Go.ChangeAt Go.RowKit Go.Ob Go.Proofs.Ytaoennekamlfeaa

theorem cnR_mb {bd : Int} {l : List St} {x y z : Int} (hR : Right bd l) (hx : -100000000 ≤ x ∧ x ≤ 100000000) (hy : -100000000 ≤ y ∧ y ≤ 100000000) (hz : -100000000 ≤ z ∧ z ≤ 100000000) :
    cnR bd l x y z (mbR bd l x y z).1 (mbR bd l x y z).2 (mbB bd l x y z).1 = ((mbR bd l x y z).2 - (mbR bd l x y z).1 + 1, 0) := by
  have M := mb_ok hR hx hy hz
  have m1 := M.b0
  have m2 := M.b1
  have m3 := M.r0
  have m4 := M.r1
  have m5 := M.r2
  have m6 := M.r3
  have hl := hR.n2
  have hfl : frstT l ≤ lastT l := hR.le 0 (l.length - 1) (by omega) (by omega)
  have hN : (nTicks l : Int) = lastT l + 1 - frstT l := by unfold nTicks; omega
  unfold cnR
  rw [if_neg (by rw [rngB_true.2 ⟨m3, by omega⟩, rngB_true.2 ⟨by omega, m6⟩, rngB_true.2 ⟨m1, m2⟩]; simp), if_neg (by omega), if_neg]
  rw [cnAny_false (fun k hk => ?_)]
  · simp
  · unfold cnBad
    by_cases h : sqLo (bx bd l (frstT l + k)) x y z ≤ sqHi (bx bd l (mbB bd l x y z).1) x y z
    · have := M.all (frstT l + k) (by omega) (by omega) (by rw [M.best]; exact h)
      rw [rngB_true.2 this]
      rfl
    · rw [decide_eq_false h]
      simp

theorem near_in {bd : Int} {l : List St} {x y z : Int} (hR : Right bd l) (hx : -100000000 ≤ x ∧ x ≤ 100000000) (hy : -100000000 ≤ y ∧ y ≤ 100000000) (hz : -100000000 ≤ z ∧ z ≤ 100000000) :
    (mbR bd l x y z).1 ≤ (nearTo (nsq l x y z) (frstT l) (nTicks l)).1 ∧ (nearTo (nsq l x y z) (frstT l) (nTicks l)).1 ≤ (mbR bd l x y z).2 := by
  have M := mb_ok hR hx hy hz
  have m1 := M.b0
  have m2 := M.b1
  have hl := hR.n2
  have hfl : frstT l ≤ lastT l := hR.le 0 (l.length - 1) (by omega) (by omega)
  have hN : (nTicks l : Int) = lastT l + 1 - frstT l := by unfold nTicks; omega
  obtain ⟨i0, ⟨j, hj, ej⟩, i2⟩ := nearTo_min (f := nsq l x y z) (a := frstT l) (N := nTicks l) (fun k hk => by have := sq_lh hR (t := frstT l + k) (by omega) (by omega) hx hy hz; unfold nsq; omega) (nTicks l) (Nat.le_refl _) (by omega)
  rw [ej] at i2 ⊢
  simp only at i2 ⊢
  refine M.all _ (by omega) (by omega) ?_
  have a := sq_lh hR (t := frstT l + j) (by omega) (by omega) hx hy hz
  have b := sq_lh hR m1 m2 hx hy hz
  have c := i2 ((mbB bd l x y z).1 - frstT l).toNat (by omega)
  rw [show frstT l + (((mbB bd l x y z).1 - frstT l).toNat : Int) = (mbB bd l x y z).1 by omega] at c
  have d := M.best
  unfold nsq at c
  omega

theorem MayBeNearest_ok' (nm : ByteArray) (bd x y z : Int) (a : Option Addr) (cap : Nat) (l : List St) (w : World) (hO : OrbIn w nm a cap l) (h : plE nm.data.toList bd l x y z = 0) :
    Calls Try.prog 50 #[obV nm bd a l.length cap, v3 x y z] w fun e w' => e = .returned (.tuple #[.agg #[.int .i64 (mbR bd l x y z).1, .int .i64 (mbR bd l x y z).2], .int .i64 (mbB bd l x y z).1, .int .i64 0]) ∧ Below w.heap.size w w' := by
  have hR := (orbE_right ((firstE_two _ _).1 h).1).1
  obtain ⟨b, off, rfl, hbw, hS⟩ := hO.mem hR
  exact MayBeNearest_ok nm bd x y z b off cap l w hO hS hbw h

set_option maxRecDepth 100000 in
set_option maxHeartbeats 2000000 in
theorem walk_no (nm : ByteArray) (bd x y z : Int) (a : Option Addr) (n cap : Nat) (w : World)
    (HB : Hid (∀ w', Below w.heap.size w w' → Calls Try.prog 16 #[obV nm bd a n cap] w' fun e w'' => e = .returned (.bool false) ∧ Below w'.heap.size w' w'')) :
    Calls Try.prog 11 #[obV nm bd a n cap, v3 x y z] w fun e w' => e = .returned (.bool true) ∧ Below w.heap.size w w' := by
  refine Calls.made fun R HR => ?_
  go_enter Try.func11, Try.ntmps11
  go_wp2_with (first | (go_at_call 15; refine (awake_any _).mono ?_; rintro e w1 ⟨rfl, hb1⟩; have hc1 := (Free.cells_of hb1).1; have hf1 := (Free.cells_of hb1).2; have hz1 := hb1.size; (try simp only [World.size_alloc, World.size_setCell, World.size_drew] at hz1); (try (have : w.heap.size < w1.heap.size := (by omega))); (try (have : w.heap.size < w1.heap.size + 1 := (by omega))); (try (have : w.heap.size < w1.heap.size + 1 + 1 := (by omega))); (try (have : w.heap.size + 1 < w1.heap.size := (by omega))); (try (have : w.heap.size + 1 < w1.heap.size + 1 := (by omega))); (try (have : w.heap.size + 1 < w1.heap.size + 1 + 1 := (by omega))); (try (have : w.heap.size + 1 + 1 < w1.heap.size := (by omega))); (try (have : w.heap.size + 1 + 1 < w1.heap.size + 1 := (by omega))); (try (have : w.heap.size + 1 + 1 < w1.heap.size + 1 + 1 := (by omega))); (try (have : w.heap.size + 1 + 1 + 1 < w1.heap.size := (by omega))); (try (have : w.heap.size + 1 + 1 + 1 < w1.heap.size + 1 := (by omega))); (try (have : w.heap.size + 1 + 1 + 1 < w1.heap.size + 1 + 1 := (by omega)))) | (go_at_call 16; refine (HB.out _ (by repeat' first | with_reducible exact Below.refl _ _ | with_reducible assumption | with_reducible refine Free.Grow.alloc ?_ _ | with_reducible refine Free.Grow.setCell ?_ (by first | omega | (simp; done) | (simp; omega)) _ | with_reducible refine Free.Grow.drew ?_ | with_reducible refine Free.Grow.trans ?_ (by assumption))).mono ?_; rintro e w2 ⟨rfl, hb2⟩; have hc2 := (Free.cells_of hb2).1; have hf2 := (Free.cells_of hb2).2; have hz2 := hb2.size; (try simp only [World.size_alloc, World.size_setCell, World.size_drew] at hz2); (try (have : w.heap.size < w2.heap.size := (by omega))); (try (have : w.heap.size < w2.heap.size + 1 := (by omega))); (try (have : w.heap.size < w2.heap.size + 1 + 1 := (by omega))); (try (have : w.heap.size + 1 < w2.heap.size := (by omega))); (try (have : w.heap.size + 1 < w2.heap.size + 1 := (by omega))); (try (have : w.heap.size + 1 < w2.heap.size + 1 + 1 := (by omega))); (try (have : w.heap.size + 1 + 1 < w2.heap.size := (by omega))); (try (have : w.heap.size + 1 + 1 < w2.heap.size + 1 := (by omega))); (try (have : w.heap.size + 1 + 1 < w2.heap.size + 1 + 1 := (by omega))); (try (have : w.heap.size + 1 + 1 + 1 < w2.heap.size := (by omega))); (try (have : w.heap.size + 1 + 1 + 1 < w2.heap.size + 1 := (by omega))); (try (have : w.heap.size + 1 + 1 + 1 < w2.heap.size + 1 + 1 := (by omega))); (try (have : w1.heap.size < w2.heap.size := (by omega))); (try (have : w1.heap.size < w2.heap.size + 1 := (by omega))); (try (have : w1.heap.size < w2.heap.size + 1 + 1 := (by omega))); (try (have : w1.heap.size + 1 < w2.heap.size := (by omega))); (try (have : w1.heap.size + 1 < w2.heap.size + 1 := (by omega))); (try (have : w1.heap.size + 1 < w2.heap.size + 1 + 1 := (by omega))); (try (have : w1.heap.size + 1 + 1 < w2.heap.size := (by omega))); (try (have : w1.heap.size + 1 + 1 < w2.heap.size + 1 := (by omega))); (try (have : w1.heap.size + 1 + 1 < w2.heap.size + 1 + 1 := (by omega))); (try (have : w1.heap.size + 1 + 1 + 1 < w2.heap.size := (by omega))); (try (have : w1.heap.size + 1 + 1 + 1 < w2.heap.size + 1 := (by omega))); (try (have : w1.heap.size + 1 + 1 + 1 < w2.heap.size + 1 + 1 := (by omega)))))
  first | (go_ret; exact HR.out _ (by repeat' first | with_reducible exact Below.refl _ _ | with_reducible assumption | with_reducible refine Free.Grow.alloc ?_ _ | with_reducible refine Free.Grow.setCell ?_ (by first | omega | (simp; done) | (simp; omega)) _ | with_reducible refine Free.Grow.drew ?_ | with_reducible refine Free.Grow.trans ?_ (by assumption))) | exact HR.out _ (by repeat' first | with_reducible exact Below.refl _ _ | with_reducible assumption | with_reducible refine Free.Grow.alloc ?_ _ | with_reducible refine Free.Grow.setCell ?_ (by first | omega | (simp; done) | (simp; omega)) _ | with_reducible refine Free.Grow.drew ?_ | with_reducible refine Free.Grow.trans ?_ (by assumption))

set_option maxRecDepth 100000 in
set_option maxHeartbeats 8000000 in
theorem walk_err (nm : ByteArray) (bd x y z : Int) (a : Option Addr) (cap : Nat) (l : List St) (w : World) (hO : OrbIn w nm a cap l) (h40 : l.length ≤ 42) (h : plE nm.data.toList bd l x y z ≠ 0)
    (HB : Hid (∀ w', Below w.heap.size w w' → Calls Try.prog 16 #[obV nm bd a l.length cap] w' fun e w'' => e = .returned (.bool true) ∧ Below w'.heap.size w' w'')) :
    Calls Try.prog 11 #[obV nm bd a l.length cap, v3 x y z] w fun e w' => e = .returned (.bool true) ∧ Below w.heap.size w w' := by
  have HC := Lib.hid (fun w' w0 S (h : OrbIn w' nm a cap l) (hs : Free.Safe w0 w' S) => Copy_rel (bd := bd) h (by omega) hs)
  have HN := Lib.hid (fun w' (g c : Nat) (h : OrbIn w' nm (some ⟨g, 0, none⟩) c l) => Nearest_any nm bd x y z (some ⟨g, 0, none⟩) c l w' h)
  rw [show nearOr nm.data.toList bd l x y z = (0, 0) by unfold nearOr; rw [if_neg h]] at HN
  have HMB := Lib.hid (fun w' (g c : Nat) (h' : OrbIn w' nm (some ⟨g, 0, none⟩) c l) => MayBeNearest_err nm bd x y z (some ⟨g, 0, none⟩) c l w' h' h)
  have HEr := Lib.hid (fun w' (h : OrbIn w' nm a cap l) => Err_any nm bd a cap l w' h)
  have HP := Lib.hid (fun w => IsPlace_any x y z w)
  have HO := Lib.hid hO
  by_cases hc : (orbE nm.data.toList bd l).2 = 0
  · rcases placeE_or x y z with hp | hp
    · exact absurd ((firstE_two _ _).2 ⟨hc, hp⟩) h
    · have e : plE nm.data.toList bd l x y z = 2 := by unfold plE; rw [hc, hp]; rfl
      rw [e] at HN HMB
      rw [hc] at HEr
      rw [show plB x y z = false from decide_eq_false (by rw [hp]; decide)] at HP
      clear h hp e hO hc
      refine Calls.made fun R HR => ?_
      go_enter Try.func11, Try.ntmps11
      go_wp2_with (first | (go_at_call 15; refine (awake_any _).mono ?_; rintro e w1 ⟨rfl, hb1⟩; have hc1 := (Free.cells_of hb1).1; have hf1 := (Free.cells_of hb1).2; have hz1 := hb1.size; (try simp only [World.size_alloc, World.size_setCell, World.size_drew] at hz1); (try (have : w.heap.size < w1.heap.size := (by omega))); (try (have : w.heap.size < w1.heap.size + 1 := (by omega))); (try (have : w.heap.size < w1.heap.size + 1 + 1 := (by omega))); (try (have : w.heap.size + 1 < w1.heap.size := (by omega))); (try (have : w.heap.size + 1 < w1.heap.size + 1 := (by omega))); (try (have : w.heap.size + 1 < w1.heap.size + 1 + 1 := (by omega))); (try (have : w.heap.size + 1 + 1 < w1.heap.size := (by omega))); (try (have : w.heap.size + 1 + 1 < w1.heap.size + 1 := (by omega))); (try (have : w.heap.size + 1 + 1 < w1.heap.size + 1 + 1 := (by omega))); (try (have : w.heap.size + 1 + 1 + 1 < w1.heap.size := (by omega))); (try (have : w.heap.size + 1 + 1 + 1 < w1.heap.size + 1 := (by omega))); (try (have : w.heap.size + 1 + 1 + 1 < w1.heap.size + 1 + 1 := (by omega)))) | (go_at_call 16; refine (HB.out _ (by repeat' first | with_reducible exact Below.refl _ _ | with_reducible assumption | with_reducible refine Free.Grow.alloc ?_ _ | with_reducible refine Free.Grow.setCell ?_ (by first | omega | (simp; done) | (simp; omega)) _ | with_reducible refine Free.Grow.drew ?_ | with_reducible refine Free.Grow.trans ?_ (by assumption))).mono ?_; rintro e w2 ⟨rfl, hb2⟩; have hc2 := (Free.cells_of hb2).1; have hf2 := (Free.cells_of hb2).2; have hz2 := hb2.size; (try simp only [World.size_alloc, World.size_setCell, World.size_drew] at hz2); (try (have : w.heap.size < w2.heap.size := (by omega))); (try (have : w.heap.size < w2.heap.size + 1 := (by omega))); (try (have : w.heap.size < w2.heap.size + 1 + 1 := (by omega))); (try (have : w.heap.size + 1 < w2.heap.size := (by omega))); (try (have : w.heap.size + 1 < w2.heap.size + 1 := (by omega))); (try (have : w.heap.size + 1 < w2.heap.size + 1 + 1 := (by omega))); (try (have : w.heap.size + 1 + 1 < w2.heap.size := (by omega))); (try (have : w.heap.size + 1 + 1 < w2.heap.size + 1 := (by omega))); (try (have : w.heap.size + 1 + 1 < w2.heap.size + 1 + 1 := (by omega))); (try (have : w.heap.size + 1 + 1 + 1 < w2.heap.size := (by omega))); (try (have : w.heap.size + 1 + 1 + 1 < w2.heap.size + 1 := (by omega))); (try (have : w.heap.size + 1 + 1 + 1 < w2.heap.size + 1 + 1 := (by omega))); (try (have : w1.heap.size < w2.heap.size := (by omega))); (try (have : w1.heap.size < w2.heap.size + 1 := (by omega))); (try (have : w1.heap.size < w2.heap.size + 1 + 1 := (by omega))); (try (have : w1.heap.size + 1 < w2.heap.size := (by omega))); (try (have : w1.heap.size + 1 < w2.heap.size + 1 := (by omega))); (try (have : w1.heap.size + 1 < w2.heap.size + 1 + 1 := (by omega))); (try (have : w1.heap.size + 1 + 1 < w2.heap.size := (by omega))); (try (have : w1.heap.size + 1 + 1 < w2.heap.size + 1 := (by omega))); (try (have : w1.heap.size + 1 + 1 < w2.heap.size + 1 + 1 := (by omega))); (try (have : w1.heap.size + 1 + 1 + 1 < w2.heap.size := (by omega))); (try (have : w1.heap.size + 1 + 1 + 1 < w2.heap.size + 1 := (by omega))); (try (have : w1.heap.size + 1 + 1 + 1 < w2.heap.size + 1 + 1 := (by omega)))))
      refine Free.wp_region 11 #[0, 1, 0, 7, 15, 31, 31, 31, 63, 383, 1023] (by kernel_rfl) (by kernel_rfl) ?_
      simp only [List.take_succ_cons, List.take_zero]
      iterate 1
        refine Free.E.q (by rfl) ?_
        apply Exists.intro
        refine ⟨fun u w' hc hb => ?_, ?_⟩
        go_simp
        (try go_ints); (try simp only [Ob.ite_imx, Ob.ite_imn]); first | exact rfl | (go_simp; exact rfl) | (simp only [↓IntWalk.iteOmega]; (try go_simp); exact rfl)
        simp only [Act.put, List.setIfInBounds_toArray, List.set_cons_zero, List.set_cons_succ, List.nil_append, List.cons_append]
      refine Free.E.r (F := CopyF nm bd l) (by rfl) (CopyF.mono nm bd l) (fun u w' S hc hb hs => ?_) ?_
      · go_simp
        refine Free.relUpon_enter ?_
        exact HC.out _ _ _ (HO.out.below (by repeat' first | with_reducible exact Below.refl _ _ | with_reducible assumption | with_reducible refine Free.Grow.alloc ?_ _ | with_reducible refine Free.Grow.setCell ?_ (by first | omega | (simp; done) | (simp; omega)) _ | with_reducible refine Free.Grow.drew ?_ | with_reducible refine Free.Grow.trans ?_ (by assumption))) hs
      simp only [Act.put, List.setIfInBounds_toArray, List.set_cons_zero, List.set_cons_succ, List.nil_append, List.cons_append]
      iterate 1
        refine Free.E.q (by rfl) ?_
        apply Exists.intro
        refine ⟨fun u w' hc hb => ?_, ?_⟩
        go_simp
        (try go_ints); (try simp only [Ob.ite_imx, Ob.ite_imn]); first | exact rfl | (go_simp; exact rfl) | (simp only [↓IntWalk.iteOmega]; (try go_simp); exact rfl)
        simp only [Act.put, List.setIfInBounds_toArray, List.set_cons_zero, List.set_cons_succ, List.nil_append, List.cons_append]
      refine Free.E.qf (by rfl) ?_
      apply Exists.intro
      refine ⟨fun u w' S hc hb hF => ?_, ?_⟩
      · obtain ⟨gx, capx, hux, hgx, -, hOx⟩ := hF 1 _ rfl (by rfl)
        go_simp
        try simp only [hux]
        (go_at_call 49; exact HN.out _ _ _ hOx)
      simp only [Act.put, List.setIfInBounds_toArray, List.set_cons_zero, List.set_cons_succ, List.nil_append, List.cons_append]
      iterate 7
        refine Free.E.q (by rfl) ?_
        apply Exists.intro
        refine ⟨fun u w' hc hb => ?_, ?_⟩
        go_simp
        (try go_ints); (try simp only [Ob.ite_imx, Ob.ite_imn]); first | exact rfl | (go_simp; exact rfl) | (simp only [↓IntWalk.iteOmega]; (try go_simp); exact rfl)
        simp only [Act.put, List.setIfInBounds_toArray, List.set_cons_zero, List.set_cons_succ, List.nil_append, List.cons_append]
      refine Free.E.nil (fun u w3 S hF => ?_)
      have hb3 := hF.below
      have hm3_1 := hF.facts 1 _ rfl
      clear hF
      have hc3 := (Free.cells_of hb3).1
      have hf3 := (Free.cells_of hb3).2
      have hz3 := hb3.size
      obtain ⟨g3_1, cap3_1, hu3_1, hg3_1, -, hO3_1⟩ := hm3_1
      simp only [hu3_1]
      have HO3_1 := Lib.hid hO3_1
      clear hu3_1 hO3_1
      try simp only [World.size_alloc, World.size_setCell, World.size_drew] at hz3
      (try (have : w.heap.size < w3.heap.size := (by omega)))
      (try (have : w.heap.size < w3.heap.size + 1 := (by omega)))
      (try (have : w.heap.size < w3.heap.size + 1 + 1 := (by omega)))
      (try (have : w.heap.size + 1 < w3.heap.size := (by omega)))
      (try (have : w.heap.size + 1 < w3.heap.size + 1 := (by omega)))
      (try (have : w.heap.size + 1 < w3.heap.size + 1 + 1 := (by omega)))
      (try (have : w.heap.size + 1 + 1 < w3.heap.size := (by omega)))
      (try (have : w.heap.size + 1 + 1 < w3.heap.size + 1 := (by omega)))
      (try (have : w.heap.size + 1 + 1 < w3.heap.size + 1 + 1 := (by omega)))
      (try (have : w.heap.size + 1 + 1 + 1 < w3.heap.size := (by omega)))
      (try (have : w.heap.size + 1 + 1 + 1 < w3.heap.size + 1 := (by omega)))
      (try (have : w.heap.size + 1 + 1 + 1 < w3.heap.size + 1 + 1 := (by omega)))
      (try (have : w1.heap.size < w3.heap.size := (by omega)))
      (try (have : w1.heap.size < w3.heap.size + 1 := (by omega)))
      (try (have : w1.heap.size < w3.heap.size + 1 + 1 := (by omega)))
      (try (have : w1.heap.size + 1 < w3.heap.size := (by omega)))
      (try (have : w1.heap.size + 1 < w3.heap.size + 1 := (by omega)))
      (try (have : w1.heap.size + 1 < w3.heap.size + 1 + 1 := (by omega)))
      (try (have : w1.heap.size + 1 + 1 < w3.heap.size := (by omega)))
      (try (have : w1.heap.size + 1 + 1 < w3.heap.size + 1 := (by omega)))
      (try (have : w1.heap.size + 1 + 1 < w3.heap.size + 1 + 1 := (by omega)))
      (try (have : w1.heap.size + 1 + 1 + 1 < w3.heap.size := (by omega)))
      (try (have : w1.heap.size + 1 + 1 + 1 < w3.heap.size + 1 := (by omega)))
      (try (have : w1.heap.size + 1 + 1 + 1 < w3.heap.size + 1 + 1 := (by omega)))
      (try (have : w2.heap.size < w3.heap.size := (by omega)))
      (try (have : w2.heap.size < w3.heap.size + 1 := (by omega)))
      (try (have : w2.heap.size < w3.heap.size + 1 + 1 := (by omega)))
      (try (have : w2.heap.size + 1 < w3.heap.size := (by omega)))
      (try (have : w2.heap.size + 1 < w3.heap.size + 1 := (by omega)))
      (try (have : w2.heap.size + 1 < w3.heap.size + 1 + 1 := (by omega)))
      (try (have : w2.heap.size + 1 + 1 < w3.heap.size := (by omega)))
      (try (have : w2.heap.size + 1 + 1 < w3.heap.size + 1 := (by omega)))
      (try (have : w2.heap.size + 1 + 1 < w3.heap.size + 1 + 1 := (by omega)))
      (try (have : w2.heap.size + 1 + 1 + 1 < w3.heap.size := (by omega)))
      (try (have : w2.heap.size + 1 + 1 + 1 < w3.heap.size + 1 := (by omega)))
      (try (have : w2.heap.size + 1 + 1 + 1 < w3.heap.size + 1 + 1 := (by omega)))
      simp only [List.drop_succ_cons, List.drop_zero, List.drop_nil]
      go_wp2
      refine Free.wp_region 12 #[0, 1, 0, 7, 15, 31, 31, 31, 0, 319, 895, 2047] (by kernel_rfl) (by kernel_rfl) ?_
      simp only [List.take_succ_cons, List.take_zero]
      iterate 1
        refine Free.E.q (by rfl) ?_
        apply Exists.intro
        refine ⟨fun u w' hc hb => ?_, ?_⟩
        go_simp
        (try go_ints); (try simp only [Ob.ite_imx, Ob.ite_imn]); first | exact rfl | (go_simp; exact rfl) | (simp only [↓IntWalk.iteOmega]; (try go_simp); exact rfl)
        simp only [Act.put, List.setIfInBounds_toArray, List.set_cons_zero, List.set_cons_succ, List.nil_append, List.cons_append]
      refine Free.E.r (F := CopyF nm bd l) (by rfl) (CopyF.mono nm bd l) (fun u w' S hc hb hs => ?_) ?_
      · go_simp
        refine Free.relUpon_enter ?_
        exact HC.out _ _ _ (HO.out.below (by repeat' first | with_reducible exact Below.refl _ _ | with_reducible assumption | with_reducible refine Free.Grow.alloc ?_ _ | with_reducible refine Free.Grow.setCell ?_ (by first | omega | (simp; done) | (simp; omega)) _ | with_reducible refine Free.Grow.drew ?_ | with_reducible refine Free.Grow.trans ?_ (by assumption))) hs
      simp only [Act.put, List.setIfInBounds_toArray, List.set_cons_zero, List.set_cons_succ, List.nil_append, List.cons_append]
      iterate 1
        refine Free.E.q (by rfl) ?_
        apply Exists.intro
        refine ⟨fun u w' hc hb => ?_, ?_⟩
        go_simp
        (try go_ints); (try simp only [Ob.ite_imx, Ob.ite_imn]); first | exact rfl | (go_simp; exact rfl) | (simp only [↓IntWalk.iteOmega]; (try go_simp); exact rfl)
        simp only [Act.put, List.setIfInBounds_toArray, List.set_cons_zero, List.set_cons_succ, List.nil_append, List.cons_append]
      refine Free.E.qf (by rfl) ?_
      apply Exists.intro
      refine ⟨fun u w' S hc hb hF => ?_, ?_⟩
      · obtain ⟨gx, capx, hux, hgx, -, hOx⟩ := hF 1 _ rfl (by rfl)
        go_simp
        try simp only [hux]
        (go_at_call 50; exact HMB.out _ _ _ hOx)
      simp only [Act.put, List.setIfInBounds_toArray, List.set_cons_zero, List.set_cons_succ, List.nil_append, List.cons_append]
      iterate 4
        refine Free.E.q (by rfl) ?_
        apply Exists.intro
        refine ⟨fun u w' hc hb => ?_, ?_⟩
        go_simp
        (try go_ints); (try simp only [Ob.ite_imx, Ob.ite_imn]); first | exact rfl | (go_simp; exact rfl) | (simp only [↓IntWalk.iteOmega]; (try go_simp); exact rfl)
        simp only [Act.put, List.setIfInBounds_toArray, List.set_cons_zero, List.set_cons_succ, List.nil_append, List.cons_append]
      refine Free.E.new (z := #[.int .i64 0, .int .i64 0]) (by rfl) rfl (by kernel_rfl) ?_
      simp only [Act.put, List.setIfInBounds_toArray, List.set_cons_zero, List.set_cons_succ, List.nil_append, List.cons_append]
      refine Free.E.init (k := 8) (by rfl) (by rfl) rfl rfl (by rfl) (by decide) (by rfl) (fun _ => rfl) (fun _ => rfl) (by kernel_rfl) rfl rfl (by rfl) ?_
      simp only [List.nil_append, List.cons_append]
      iterate 2
        refine Free.E.q (by rfl) ?_
        apply Exists.intro
        refine ⟨fun u w' hc hb => ?_, ?_⟩
        go_simp
        (try go_ints); (try simp only [Ob.ite_imx, Ob.ite_imn]); first | exact rfl | (go_simp; exact rfl) | (simp only [↓IntWalk.iteOmega]; (try go_simp); exact rfl)
        simp only [Act.put, List.setIfInBounds_toArray, List.set_cons_zero, List.set_cons_succ, List.nil_append, List.cons_append]
      refine Free.E.nil (fun u w4 S hF => ?_)
      have hb4 := hF.below
      obtain ⟨b4_8, hu4_8, hlo4_8, hhi4_8, -, hk4_8⟩ := hF.allocs 8 _ _ rfl
      simp only [Free.final, List.findSome?, reduceIte, Option.getD_some, Option.getD_none, Nat.reduceEqDiff, Value.cells] at hk4_8
      have hm4_1 := hF.facts 1 _ rfl
      clear hF
      have hc4 := (Free.cells_of hb4).1
      have hf4 := (Free.cells_of hb4).2
      have hz4 := hb4.size
      simp only [hu4_8]
      have hcb4_8 := Free.cell_of_blk hk4_8
      have hfb4_8 := Free.frozen_of_blk hk4_8
      clear hu4_8 hk4_8
      obtain ⟨g4_1, cap4_1, hu4_1, hg4_1, -, hO4_1⟩ := hm4_1
      simp only [hu4_1]
      have HO4_1 := Lib.hid hO4_1
      clear hu4_1 hO4_1
      try simp only [World.size_alloc, World.size_setCell, World.size_drew] at hz4 hlo4_8
      (try (have : w.heap.size < w4.heap.size := (by omega)))
      (try (have : w.heap.size < w4.heap.size + 1 := (by omega)))
      (try (have : w.heap.size < w4.heap.size + 1 + 1 := (by omega)))
      (try (have : w.heap.size + 1 < w4.heap.size := (by omega)))
      (try (have : w.heap.size + 1 < w4.heap.size + 1 := (by omega)))
      (try (have : w.heap.size + 1 < w4.heap.size + 1 + 1 := (by omega)))
      (try (have : w.heap.size + 1 + 1 < w4.heap.size := (by omega)))
      (try (have : w.heap.size + 1 + 1 < w4.heap.size + 1 := (by omega)))
      (try (have : w.heap.size + 1 + 1 < w4.heap.size + 1 + 1 := (by omega)))
      (try (have : w.heap.size + 1 + 1 + 1 < w4.heap.size := (by omega)))
      (try (have : w.heap.size + 1 + 1 + 1 < w4.heap.size + 1 := (by omega)))
      (try (have : w.heap.size + 1 + 1 + 1 < w4.heap.size + 1 + 1 := (by omega)))
      (try (have : w1.heap.size < w4.heap.size := (by omega)))
      (try (have : w1.heap.size < w4.heap.size + 1 := (by omega)))
      (try (have : w1.heap.size < w4.heap.size + 1 + 1 := (by omega)))
      (try (have : w1.heap.size + 1 < w4.heap.size := (by omega)))
      (try (have : w1.heap.size + 1 < w4.heap.size + 1 := (by omega)))
      (try (have : w1.heap.size + 1 < w4.heap.size + 1 + 1 := (by omega)))
      (try (have : w1.heap.size + 1 + 1 < w4.heap.size := (by omega)))
      (try (have : w1.heap.size + 1 + 1 < w4.heap.size + 1 := (by omega)))
      (try (have : w1.heap.size + 1 + 1 < w4.heap.size + 1 + 1 := (by omega)))
      (try (have : w1.heap.size + 1 + 1 + 1 < w4.heap.size := (by omega)))
      (try (have : w1.heap.size + 1 + 1 + 1 < w4.heap.size + 1 := (by omega)))
      (try (have : w1.heap.size + 1 + 1 + 1 < w4.heap.size + 1 + 1 := (by omega)))
      (try (have : w2.heap.size < w4.heap.size := (by omega)))
      (try (have : w2.heap.size < w4.heap.size + 1 := (by omega)))
      (try (have : w2.heap.size < w4.heap.size + 1 + 1 := (by omega)))
      (try (have : w2.heap.size + 1 < w4.heap.size := (by omega)))
      (try (have : w2.heap.size + 1 < w4.heap.size + 1 := (by omega)))
      (try (have : w2.heap.size + 1 < w4.heap.size + 1 + 1 := (by omega)))
      (try (have : w2.heap.size + 1 + 1 < w4.heap.size := (by omega)))
      (try (have : w2.heap.size + 1 + 1 < w4.heap.size + 1 := (by omega)))
      (try (have : w2.heap.size + 1 + 1 < w4.heap.size + 1 + 1 := (by omega)))
      (try (have : w2.heap.size + 1 + 1 + 1 < w4.heap.size := (by omega)))
      (try (have : w2.heap.size + 1 + 1 + 1 < w4.heap.size + 1 := (by omega)))
      (try (have : w2.heap.size + 1 + 1 + 1 < w4.heap.size + 1 + 1 := (by omega)))
      (try (have : w3.heap.size < w4.heap.size := (by omega)))
      (try (have : w3.heap.size < w4.heap.size + 1 := (by omega)))
      (try (have : w3.heap.size < w4.heap.size + 1 + 1 := (by omega)))
      (try (have : w3.heap.size + 1 < w4.heap.size := (by omega)))
      (try (have : w3.heap.size + 1 < w4.heap.size + 1 := (by omega)))
      (try (have : w3.heap.size + 1 < w4.heap.size + 1 + 1 := (by omega)))
      (try (have : w3.heap.size + 1 + 1 < w4.heap.size := (by omega)))
      (try (have : w3.heap.size + 1 + 1 < w4.heap.size + 1 := (by omega)))
      (try (have : w3.heap.size + 1 + 1 < w4.heap.size + 1 + 1 := (by omega)))
      (try (have : w3.heap.size + 1 + 1 + 1 < w4.heap.size := (by omega)))
      (try (have : w3.heap.size + 1 + 1 + 1 < w4.heap.size + 1 := (by omega)))
      (try (have : w3.heap.size + 1 + 1 + 1 < w4.heap.size + 1 + 1 := (by omega)))
      simp only [List.drop_succ_cons, List.drop_zero, List.drop_nil]
      go_wp2_with fail
      refine (HEr.out _ (HO.out.below (by repeat' first | with_reducible exact Below.refl _ _ | with_reducible assumption | with_reducible refine Free.Grow.alloc ?_ _ | with_reducible refine Free.Grow.setCell ?_ (by first | omega | (simp; done) | (simp; omega)) _ | with_reducible refine Free.Grow.drew ?_ | with_reducible refine Free.Grow.trans ?_ (by assumption)))).mono ?_
      rintro e w5 ⟨rfl, hb5⟩
      have hc5 := (Free.cells_of hb5).1; have hf5 := (Free.cells_of hb5).2; have hz5 := hb5.size; (try simp only [World.size_alloc, World.size_setCell, World.size_drew] at hz5)
      (try (have : w.heap.size < w5.heap.size := (by omega))); (try (have : w.heap.size < w5.heap.size + 1 := (by omega))); (try (have : w.heap.size < w5.heap.size + 1 + 1 := (by omega))); (try (have : w.heap.size + 1 < w5.heap.size := (by omega))); (try (have : w.heap.size + 1 < w5.heap.size + 1 := (by omega))); (try (have : w.heap.size + 1 < w5.heap.size + 1 + 1 := (by omega))); (try (have : w.heap.size + 1 + 1 < w5.heap.size := (by omega))); (try (have : w.heap.size + 1 + 1 < w5.heap.size + 1 := (by omega))); (try (have : w.heap.size + 1 + 1 < w5.heap.size + 1 + 1 := (by omega))); (try (have : w.heap.size + 1 + 1 + 1 < w5.heap.size := (by omega))); (try (have : w.heap.size + 1 + 1 + 1 < w5.heap.size + 1 := (by omega))); (try (have : w.heap.size + 1 + 1 + 1 < w5.heap.size + 1 + 1 := (by omega))); (try (have : w3.heap.size < w5.heap.size := (by omega))); (try (have : w3.heap.size < w5.heap.size + 1 := (by omega))); (try (have : w3.heap.size < w5.heap.size + 1 + 1 := (by omega))); (try (have : w3.heap.size + 1 < w5.heap.size := (by omega))); (try (have : w3.heap.size + 1 < w5.heap.size + 1 := (by omega))); (try (have : w3.heap.size + 1 < w5.heap.size + 1 + 1 := (by omega))); (try (have : w3.heap.size + 1 + 1 < w5.heap.size := (by omega))); (try (have : w3.heap.size + 1 + 1 < w5.heap.size + 1 := (by omega))); (try (have : w3.heap.size + 1 + 1 < w5.heap.size + 1 + 1 := (by omega))); (try (have : w3.heap.size + 1 + 1 + 1 < w5.heap.size := (by omega))); (try (have : w3.heap.size + 1 + 1 + 1 < w5.heap.size + 1 := (by omega))); (try (have : w3.heap.size + 1 + 1 + 1 < w5.heap.size + 1 + 1 := (by omega))); (try (have : b4_8 < w5.heap.size := (by omega))); (try (have : b4_8 < w5.heap.size + 1 := (by omega))); (try (have : b4_8 < w5.heap.size + 1 + 1 := (by omega)))
      go_wp2_with (first | (go_at_call 20; refine (HP.out _).mono ?_; rintro e w6 ⟨rfl, hb6⟩; have hc6 := (Free.cells_of hb6).1; have hf6 := (Free.cells_of hb6).2; have hz6 := hb6.size; (try simp only [World.size_alloc, World.size_setCell, World.size_drew] at hz6); (try (have : w.heap.size < w6.heap.size := (by omega))); (try (have : w.heap.size < w6.heap.size + 1 := (by omega))); (try (have : w.heap.size < w6.heap.size + 1 + 1 := (by omega))); (try (have : w.heap.size + 1 < w6.heap.size := (by omega))); (try (have : w.heap.size + 1 < w6.heap.size + 1 := (by omega))); (try (have : w.heap.size + 1 < w6.heap.size + 1 + 1 := (by omega))); (try (have : w.heap.size + 1 + 1 < w6.heap.size := (by omega))); (try (have : w.heap.size + 1 + 1 < w6.heap.size + 1 := (by omega))); (try (have : w.heap.size + 1 + 1 < w6.heap.size + 1 + 1 := (by omega))); (try (have : w.heap.size + 1 + 1 + 1 < w6.heap.size := (by omega))); (try (have : w.heap.size + 1 + 1 + 1 < w6.heap.size + 1 := (by omega))); (try (have : w.heap.size + 1 + 1 + 1 < w6.heap.size + 1 + 1 := (by omega))); (try (have : w3.heap.size < w6.heap.size := (by omega))); (try (have : w3.heap.size < w6.heap.size + 1 := (by omega))); (try (have : w3.heap.size < w6.heap.size + 1 + 1 := (by omega))); (try (have : w3.heap.size + 1 < w6.heap.size := (by omega))); (try (have : w3.heap.size + 1 < w6.heap.size + 1 := (by omega))); (try (have : w3.heap.size + 1 < w6.heap.size + 1 + 1 := (by omega))); (try (have : w3.heap.size + 1 + 1 < w6.heap.size := (by omega))); (try (have : w3.heap.size + 1 + 1 < w6.heap.size + 1 := (by omega))); (try (have : w3.heap.size + 1 + 1 < w6.heap.size + 1 + 1 := (by omega))); (try (have : w3.heap.size + 1 + 1 + 1 < w6.heap.size := (by omega))); (try (have : w3.heap.size + 1 + 1 + 1 < w6.heap.size + 1 := (by omega))); (try (have : w3.heap.size + 1 + 1 + 1 < w6.heap.size + 1 + 1 := (by omega))); (try (have : w5.heap.size < w6.heap.size := (by omega))); (try (have : w5.heap.size < w6.heap.size + 1 := (by omega))); (try (have : w5.heap.size < w6.heap.size + 1 + 1 := (by omega))); (try (have : w5.heap.size + 1 < w6.heap.size := (by omega))); (try (have : w5.heap.size + 1 < w6.heap.size + 1 := (by omega))); (try (have : w5.heap.size + 1 < w6.heap.size + 1 + 1 := (by omega))); (try (have : w5.heap.size + 1 + 1 < w6.heap.size := (by omega))); (try (have : w5.heap.size + 1 + 1 < w6.heap.size + 1 := (by omega))); (try (have : w5.heap.size + 1 + 1 < w6.heap.size + 1 + 1 := (by omega))); (try (have : w5.heap.size + 1 + 1 + 1 < w6.heap.size := (by omega))); (try (have : w5.heap.size + 1 + 1 + 1 < w6.heap.size + 1 := (by omega))); (try (have : w5.heap.size + 1 + 1 + 1 < w6.heap.size + 1 + 1 := (by omega))); (try (have : b4_8 < w6.heap.size := (by omega))); (try (have : b4_8 < w6.heap.size + 1 := (by omega))); (try (have : b4_8 < w6.heap.size + 1 + 1 := (by omega)))))
      first | (go_ret; exact HR.out _ (by repeat' first | with_reducible exact Below.refl _ _ | with_reducible assumption | with_reducible refine Free.Grow.alloc ?_ _ | with_reducible refine Free.Grow.setCell ?_ (by first | omega | (simp; done) | (simp; omega)) _ | with_reducible refine Free.Grow.drew ?_ | with_reducible refine Free.Grow.trans ?_ (by assumption))) | exact HR.out _ (by repeat' first | with_reducible exact Below.refl _ _ | with_reducible assumption | with_reducible refine Free.Grow.alloc ?_ _ | with_reducible refine Free.Grow.setCell ?_ (by first | omega | (simp; done) | (simp; omega)) _ | with_reducible refine Free.Grow.drew ?_ | with_reducible refine Free.Grow.trans ?_ (by assumption))
  · have e : plE nm.data.toList bd l x y z = (orbE nm.data.toList bd l).2 := by unfold plE; exact first_two hc
    rw [e] at HN HMB
    have hb0 : ((orbE nm.data.toList bd l).2 == 0) = false := by simpa using hc
    have hb1 : ((orbE nm.data.toList bd l).2 != 0) = true := by simpa using hc
    clear h e hO hc HP
    generalize (orbE nm.data.toList bd l).2 = c at *
    refine Calls.made fun R HR => ?_
    go_enter Try.func11, Try.ntmps11
    go_wp2_with (first | (go_at_call 15; refine (awake_any _).mono ?_; rintro e w1 ⟨rfl, hb1⟩; have hc1 := (Free.cells_of hb1).1; have hf1 := (Free.cells_of hb1).2; have hz1 := hb1.size; (try simp only [World.size_alloc, World.size_setCell, World.size_drew] at hz1); (try (have : w.heap.size < w1.heap.size := (by omega))); (try (have : w.heap.size < w1.heap.size + 1 := (by omega))); (try (have : w.heap.size < w1.heap.size + 1 + 1 := (by omega))); (try (have : w.heap.size + 1 < w1.heap.size := (by omega))); (try (have : w.heap.size + 1 < w1.heap.size + 1 := (by omega))); (try (have : w.heap.size + 1 < w1.heap.size + 1 + 1 := (by omega))); (try (have : w.heap.size + 1 + 1 < w1.heap.size := (by omega))); (try (have : w.heap.size + 1 + 1 < w1.heap.size + 1 := (by omega))); (try (have : w.heap.size + 1 + 1 < w1.heap.size + 1 + 1 := (by omega))); (try (have : w.heap.size + 1 + 1 + 1 < w1.heap.size := (by omega))); (try (have : w.heap.size + 1 + 1 + 1 < w1.heap.size + 1 := (by omega))); (try (have : w.heap.size + 1 + 1 + 1 < w1.heap.size + 1 + 1 := (by omega)))) | (go_at_call 16; refine (HB.out _ (by repeat' first | with_reducible exact Below.refl _ _ | with_reducible assumption | with_reducible refine Free.Grow.alloc ?_ _ | with_reducible refine Free.Grow.setCell ?_ (by first | omega | (simp; done) | (simp; omega)) _ | with_reducible refine Free.Grow.drew ?_ | with_reducible refine Free.Grow.trans ?_ (by assumption))).mono ?_; rintro e w2 ⟨rfl, hb2⟩; have hc2 := (Free.cells_of hb2).1; have hf2 := (Free.cells_of hb2).2; have hz2 := hb2.size; (try simp only [World.size_alloc, World.size_setCell, World.size_drew] at hz2); (try (have : w.heap.size < w2.heap.size := (by omega))); (try (have : w.heap.size < w2.heap.size + 1 := (by omega))); (try (have : w.heap.size < w2.heap.size + 1 + 1 := (by omega))); (try (have : w.heap.size + 1 < w2.heap.size := (by omega))); (try (have : w.heap.size + 1 < w2.heap.size + 1 := (by omega))); (try (have : w.heap.size + 1 < w2.heap.size + 1 + 1 := (by omega))); (try (have : w.heap.size + 1 + 1 < w2.heap.size := (by omega))); (try (have : w.heap.size + 1 + 1 < w2.heap.size + 1 := (by omega))); (try (have : w.heap.size + 1 + 1 < w2.heap.size + 1 + 1 := (by omega))); (try (have : w.heap.size + 1 + 1 + 1 < w2.heap.size := (by omega))); (try (have : w.heap.size + 1 + 1 + 1 < w2.heap.size + 1 := (by omega))); (try (have : w.heap.size + 1 + 1 + 1 < w2.heap.size + 1 + 1 := (by omega))); (try (have : w1.heap.size < w2.heap.size := (by omega))); (try (have : w1.heap.size < w2.heap.size + 1 := (by omega))); (try (have : w1.heap.size < w2.heap.size + 1 + 1 := (by omega))); (try (have : w1.heap.size + 1 < w2.heap.size := (by omega))); (try (have : w1.heap.size + 1 < w2.heap.size + 1 := (by omega))); (try (have : w1.heap.size + 1 < w2.heap.size + 1 + 1 := (by omega))); (try (have : w1.heap.size + 1 + 1 < w2.heap.size := (by omega))); (try (have : w1.heap.size + 1 + 1 < w2.heap.size + 1 := (by omega))); (try (have : w1.heap.size + 1 + 1 < w2.heap.size + 1 + 1 := (by omega))); (try (have : w1.heap.size + 1 + 1 + 1 < w2.heap.size := (by omega))); (try (have : w1.heap.size + 1 + 1 + 1 < w2.heap.size + 1 := (by omega))); (try (have : w1.heap.size + 1 + 1 + 1 < w2.heap.size + 1 + 1 := (by omega)))))
    refine Free.wp_region 11 #[0, 1, 0, 7, 15, 31, 31, 31, 63, 383, 1023] (by kernel_rfl) (by kernel_rfl) ?_
    simp only [List.take_succ_cons, List.take_zero]
    iterate 1
      refine Free.E.q (by rfl) ?_
      apply Exists.intro
      refine ⟨fun u w' hc hb => ?_, ?_⟩
      go_simp
      (try go_ints); (try simp only [Ob.ite_imx, Ob.ite_imn]); first | exact rfl | (go_simp; exact rfl) | (simp only [↓IntWalk.iteOmega]; (try go_simp); exact rfl)
      simp only [Act.put, List.setIfInBounds_toArray, List.set_cons_zero, List.set_cons_succ, List.nil_append, List.cons_append]
    refine Free.E.r (F := CopyF nm bd l) (by rfl) (CopyF.mono nm bd l) (fun u w' S hc hb hs => ?_) ?_
    · go_simp
      refine Free.relUpon_enter ?_
      exact HC.out _ _ _ (HO.out.below (by repeat' first | with_reducible exact Below.refl _ _ | with_reducible assumption | with_reducible refine Free.Grow.alloc ?_ _ | with_reducible refine Free.Grow.setCell ?_ (by first | omega | (simp; done) | (simp; omega)) _ | with_reducible refine Free.Grow.drew ?_ | with_reducible refine Free.Grow.trans ?_ (by assumption))) hs
    simp only [Act.put, List.setIfInBounds_toArray, List.set_cons_zero, List.set_cons_succ, List.nil_append, List.cons_append]
    iterate 1
      refine Free.E.q (by rfl) ?_
      apply Exists.intro
      refine ⟨fun u w' hc hb => ?_, ?_⟩
      go_simp
      (try go_ints); (try simp only [Ob.ite_imx, Ob.ite_imn]); first | exact rfl | (go_simp; exact rfl) | (simp only [↓IntWalk.iteOmega]; (try go_simp); exact rfl)
      simp only [Act.put, List.setIfInBounds_toArray, List.set_cons_zero, List.set_cons_succ, List.nil_append, List.cons_append]
    refine Free.E.qf (by rfl) ?_
    apply Exists.intro
    refine ⟨fun u w' S hc hb hF => ?_, ?_⟩
    · obtain ⟨gx, capx, hux, hgx, -, hOx⟩ := hF 1 _ rfl (by rfl)
      go_simp
      try simp only [hux]
      (go_at_call 49; exact HN.out _ _ _ hOx)
    simp only [Act.put, List.setIfInBounds_toArray, List.set_cons_zero, List.set_cons_succ, List.nil_append, List.cons_append]
    iterate 7
      refine Free.E.q (by rfl) ?_
      apply Exists.intro
      refine ⟨fun u w' hc hb => ?_, ?_⟩
      go_simp
      (try go_ints); (try simp only [Ob.ite_imx, Ob.ite_imn]); first | exact rfl | (go_simp; exact rfl) | (simp only [↓IntWalk.iteOmega]; (try go_simp); exact rfl)
      simp only [Act.put, List.setIfInBounds_toArray, List.set_cons_zero, List.set_cons_succ, List.nil_append, List.cons_append]
    refine Free.E.nil (fun u w3 S hF => ?_)
    have hb3 := hF.below
    have hm3_1 := hF.facts 1 _ rfl
    clear hF
    have hc3 := (Free.cells_of hb3).1
    have hf3 := (Free.cells_of hb3).2
    have hz3 := hb3.size
    obtain ⟨g3_1, cap3_1, hu3_1, hg3_1, -, hO3_1⟩ := hm3_1
    simp only [hu3_1]
    have HO3_1 := Lib.hid hO3_1
    clear hu3_1 hO3_1
    try simp only [World.size_alloc, World.size_setCell, World.size_drew] at hz3
    (try (have : w.heap.size < w3.heap.size := (by omega)))
    (try (have : w.heap.size < w3.heap.size + 1 := (by omega)))
    (try (have : w.heap.size < w3.heap.size + 1 + 1 := (by omega)))
    (try (have : w.heap.size + 1 < w3.heap.size := (by omega)))
    (try (have : w.heap.size + 1 < w3.heap.size + 1 := (by omega)))
    (try (have : w.heap.size + 1 < w3.heap.size + 1 + 1 := (by omega)))
    (try (have : w.heap.size + 1 + 1 < w3.heap.size := (by omega)))
    (try (have : w.heap.size + 1 + 1 < w3.heap.size + 1 := (by omega)))
    (try (have : w.heap.size + 1 + 1 < w3.heap.size + 1 + 1 := (by omega)))
    (try (have : w.heap.size + 1 + 1 + 1 < w3.heap.size := (by omega)))
    (try (have : w.heap.size + 1 + 1 + 1 < w3.heap.size + 1 := (by omega)))
    (try (have : w.heap.size + 1 + 1 + 1 < w3.heap.size + 1 + 1 := (by omega)))
    (try (have : w1.heap.size < w3.heap.size := (by omega)))
    (try (have : w1.heap.size < w3.heap.size + 1 := (by omega)))
    (try (have : w1.heap.size < w3.heap.size + 1 + 1 := (by omega)))
    (try (have : w1.heap.size + 1 < w3.heap.size := (by omega)))
    (try (have : w1.heap.size + 1 < w3.heap.size + 1 := (by omega)))
    (try (have : w1.heap.size + 1 < w3.heap.size + 1 + 1 := (by omega)))
    (try (have : w1.heap.size + 1 + 1 < w3.heap.size := (by omega)))
    (try (have : w1.heap.size + 1 + 1 < w3.heap.size + 1 := (by omega)))
    (try (have : w1.heap.size + 1 + 1 < w3.heap.size + 1 + 1 := (by omega)))
    (try (have : w1.heap.size + 1 + 1 + 1 < w3.heap.size := (by omega)))
    (try (have : w1.heap.size + 1 + 1 + 1 < w3.heap.size + 1 := (by omega)))
    (try (have : w1.heap.size + 1 + 1 + 1 < w3.heap.size + 1 + 1 := (by omega)))
    (try (have : w2.heap.size < w3.heap.size := (by omega)))
    (try (have : w2.heap.size < w3.heap.size + 1 := (by omega)))
    (try (have : w2.heap.size < w3.heap.size + 1 + 1 := (by omega)))
    (try (have : w2.heap.size + 1 < w3.heap.size := (by omega)))
    (try (have : w2.heap.size + 1 < w3.heap.size + 1 := (by omega)))
    (try (have : w2.heap.size + 1 < w3.heap.size + 1 + 1 := (by omega)))
    (try (have : w2.heap.size + 1 + 1 < w3.heap.size := (by omega)))
    (try (have : w2.heap.size + 1 + 1 < w3.heap.size + 1 := (by omega)))
    (try (have : w2.heap.size + 1 + 1 < w3.heap.size + 1 + 1 := (by omega)))
    (try (have : w2.heap.size + 1 + 1 + 1 < w3.heap.size := (by omega)))
    (try (have : w2.heap.size + 1 + 1 + 1 < w3.heap.size + 1 := (by omega)))
    (try (have : w2.heap.size + 1 + 1 + 1 < w3.heap.size + 1 + 1 := (by omega)))
    simp only [List.drop_succ_cons, List.drop_zero, List.drop_nil]
    go_wp2
    refine Free.wp_region 12 #[0, 1, 0, 7, 15, 31, 31, 31, 0, 319, 895, 2047] (by kernel_rfl) (by kernel_rfl) ?_
    simp only [List.take_succ_cons, List.take_zero]
    iterate 1
      refine Free.E.q (by rfl) ?_
      apply Exists.intro
      refine ⟨fun u w' hc hb => ?_, ?_⟩
      go_simp
      (try go_ints); (try simp only [Ob.ite_imx, Ob.ite_imn]); first | exact rfl | (go_simp; exact rfl) | (simp only [↓IntWalk.iteOmega]; (try go_simp); exact rfl)
      simp only [Act.put, List.setIfInBounds_toArray, List.set_cons_zero, List.set_cons_succ, List.nil_append, List.cons_append]
    refine Free.E.r (F := CopyF nm bd l) (by rfl) (CopyF.mono nm bd l) (fun u w' S hc hb hs => ?_) ?_
    · go_simp
      refine Free.relUpon_enter ?_
      exact HC.out _ _ _ (HO.out.below (by repeat' first | with_reducible exact Below.refl _ _ | with_reducible assumption | with_reducible refine Free.Grow.alloc ?_ _ | with_reducible refine Free.Grow.setCell ?_ (by first | omega | (simp; done) | (simp; omega)) _ | with_reducible refine Free.Grow.drew ?_ | with_reducible refine Free.Grow.trans ?_ (by assumption))) hs
    simp only [Act.put, List.setIfInBounds_toArray, List.set_cons_zero, List.set_cons_succ, List.nil_append, List.cons_append]
    iterate 1
      refine Free.E.q (by rfl) ?_
      apply Exists.intro
      refine ⟨fun u w' hc hb => ?_, ?_⟩
      go_simp
      (try go_ints); (try simp only [Ob.ite_imx, Ob.ite_imn]); first | exact rfl | (go_simp; exact rfl) | (simp only [↓IntWalk.iteOmega]; (try go_simp); exact rfl)
      simp only [Act.put, List.setIfInBounds_toArray, List.set_cons_zero, List.set_cons_succ, List.nil_append, List.cons_append]
    refine Free.E.qf (by rfl) ?_
    apply Exists.intro
    refine ⟨fun u w' S hc hb hF => ?_, ?_⟩
    · obtain ⟨gx, capx, hux, hgx, -, hOx⟩ := hF 1 _ rfl (by rfl)
      go_simp
      try simp only [hux]
      (go_at_call 50; exact HMB.out _ _ _ hOx)
    simp only [Act.put, List.setIfInBounds_toArray, List.set_cons_zero, List.set_cons_succ, List.nil_append, List.cons_append]
    iterate 4
      refine Free.E.q (by rfl) ?_
      apply Exists.intro
      refine ⟨fun u w' hc hb => ?_, ?_⟩
      go_simp
      (try go_ints); (try simp only [Ob.ite_imx, Ob.ite_imn]); first | exact rfl | (go_simp; exact rfl) | (simp only [↓IntWalk.iteOmega]; (try go_simp); exact rfl)
      simp only [Act.put, List.setIfInBounds_toArray, List.set_cons_zero, List.set_cons_succ, List.nil_append, List.cons_append]
    refine Free.E.new (z := #[.int .i64 0, .int .i64 0]) (by rfl) rfl (by kernel_rfl) ?_
    simp only [Act.put, List.setIfInBounds_toArray, List.set_cons_zero, List.set_cons_succ, List.nil_append, List.cons_append]
    refine Free.E.init (k := 8) (by rfl) (by rfl) rfl rfl (by rfl) (by decide) (by rfl) (fun _ => rfl) (fun _ => rfl) (by kernel_rfl) rfl rfl (by rfl) ?_
    simp only [List.nil_append, List.cons_append]
    iterate 2
      refine Free.E.q (by rfl) ?_
      apply Exists.intro
      refine ⟨fun u w' hc hb => ?_, ?_⟩
      go_simp
      (try go_ints); (try simp only [Ob.ite_imx, Ob.ite_imn]); first | exact rfl | (go_simp; exact rfl) | (simp only [↓IntWalk.iteOmega]; (try go_simp); exact rfl)
      simp only [Act.put, List.setIfInBounds_toArray, List.set_cons_zero, List.set_cons_succ, List.nil_append, List.cons_append]
    refine Free.E.nil (fun u w4 S hF => ?_)
    have hb4 := hF.below
    obtain ⟨b4_8, hu4_8, hlo4_8, hhi4_8, -, hk4_8⟩ := hF.allocs 8 _ _ rfl
    simp only [Free.final, List.findSome?, reduceIte, Option.getD_some, Option.getD_none, Nat.reduceEqDiff, Value.cells] at hk4_8
    have hm4_1 := hF.facts 1 _ rfl
    clear hF
    have hc4 := (Free.cells_of hb4).1
    have hf4 := (Free.cells_of hb4).2
    have hz4 := hb4.size
    simp only [hu4_8]
    have hcb4_8 := Free.cell_of_blk hk4_8
    have hfb4_8 := Free.frozen_of_blk hk4_8
    clear hu4_8 hk4_8
    obtain ⟨g4_1, cap4_1, hu4_1, hg4_1, -, hO4_1⟩ := hm4_1
    simp only [hu4_1]
    have HO4_1 := Lib.hid hO4_1
    clear hu4_1 hO4_1
    try simp only [World.size_alloc, World.size_setCell, World.size_drew] at hz4 hlo4_8
    (try (have : w.heap.size < w4.heap.size := (by omega)))
    (try (have : w.heap.size < w4.heap.size + 1 := (by omega)))
    (try (have : w.heap.size < w4.heap.size + 1 + 1 := (by omega)))
    (try (have : w.heap.size + 1 < w4.heap.size := (by omega)))
    (try (have : w.heap.size + 1 < w4.heap.size + 1 := (by omega)))
    (try (have : w.heap.size + 1 < w4.heap.size + 1 + 1 := (by omega)))
    (try (have : w.heap.size + 1 + 1 < w4.heap.size := (by omega)))
    (try (have : w.heap.size + 1 + 1 < w4.heap.size + 1 := (by omega)))
    (try (have : w.heap.size + 1 + 1 < w4.heap.size + 1 + 1 := (by omega)))
    (try (have : w.heap.size + 1 + 1 + 1 < w4.heap.size := (by omega)))
    (try (have : w.heap.size + 1 + 1 + 1 < w4.heap.size + 1 := (by omega)))
    (try (have : w.heap.size + 1 + 1 + 1 < w4.heap.size + 1 + 1 := (by omega)))
    (try (have : w1.heap.size < w4.heap.size := (by omega)))
    (try (have : w1.heap.size < w4.heap.size + 1 := (by omega)))
    (try (have : w1.heap.size < w4.heap.size + 1 + 1 := (by omega)))
    (try (have : w1.heap.size + 1 < w4.heap.size := (by omega)))
    (try (have : w1.heap.size + 1 < w4.heap.size + 1 := (by omega)))
    (try (have : w1.heap.size + 1 < w4.heap.size + 1 + 1 := (by omega)))
    (try (have : w1.heap.size + 1 + 1 < w4.heap.size := (by omega)))
    (try (have : w1.heap.size + 1 + 1 < w4.heap.size + 1 := (by omega)))
    (try (have : w1.heap.size + 1 + 1 < w4.heap.size + 1 + 1 := (by omega)))
    (try (have : w1.heap.size + 1 + 1 + 1 < w4.heap.size := (by omega)))
    (try (have : w1.heap.size + 1 + 1 + 1 < w4.heap.size + 1 := (by omega)))
    (try (have : w1.heap.size + 1 + 1 + 1 < w4.heap.size + 1 + 1 := (by omega)))
    (try (have : w2.heap.size < w4.heap.size := (by omega)))
    (try (have : w2.heap.size < w4.heap.size + 1 := (by omega)))
    (try (have : w2.heap.size < w4.heap.size + 1 + 1 := (by omega)))
    (try (have : w2.heap.size + 1 < w4.heap.size := (by omega)))
    (try (have : w2.heap.size + 1 < w4.heap.size + 1 := (by omega)))
    (try (have : w2.heap.size + 1 < w4.heap.size + 1 + 1 := (by omega)))
    (try (have : w2.heap.size + 1 + 1 < w4.heap.size := (by omega)))
    (try (have : w2.heap.size + 1 + 1 < w4.heap.size + 1 := (by omega)))
    (try (have : w2.heap.size + 1 + 1 < w4.heap.size + 1 + 1 := (by omega)))
    (try (have : w2.heap.size + 1 + 1 + 1 < w4.heap.size := (by omega)))
    (try (have : w2.heap.size + 1 + 1 + 1 < w4.heap.size + 1 := (by omega)))
    (try (have : w2.heap.size + 1 + 1 + 1 < w4.heap.size + 1 + 1 := (by omega)))
    (try (have : w3.heap.size < w4.heap.size := (by omega)))
    (try (have : w3.heap.size < w4.heap.size + 1 := (by omega)))
    (try (have : w3.heap.size < w4.heap.size + 1 + 1 := (by omega)))
    (try (have : w3.heap.size + 1 < w4.heap.size := (by omega)))
    (try (have : w3.heap.size + 1 < w4.heap.size + 1 := (by omega)))
    (try (have : w3.heap.size + 1 < w4.heap.size + 1 + 1 := (by omega)))
    (try (have : w3.heap.size + 1 + 1 < w4.heap.size := (by omega)))
    (try (have : w3.heap.size + 1 + 1 < w4.heap.size + 1 := (by omega)))
    (try (have : w3.heap.size + 1 + 1 < w4.heap.size + 1 + 1 := (by omega)))
    (try (have : w3.heap.size + 1 + 1 + 1 < w4.heap.size := (by omega)))
    (try (have : w3.heap.size + 1 + 1 + 1 < w4.heap.size + 1 := (by omega)))
    (try (have : w3.heap.size + 1 + 1 + 1 < w4.heap.size + 1 + 1 := (by omega)))
    simp only [List.drop_succ_cons, List.drop_zero, List.drop_nil]
    go_wp2_with fail
    refine (HEr.out _ (HO.out.below (by repeat' first | with_reducible exact Below.refl _ _ | with_reducible assumption | with_reducible refine Free.Grow.alloc ?_ _ | with_reducible refine Free.Grow.setCell ?_ (by first | omega | (simp; done) | (simp; omega)) _ | with_reducible refine Free.Grow.drew ?_ | with_reducible refine Free.Grow.trans ?_ (by assumption)))).mono ?_
    rintro e w5 ⟨rfl, hb5⟩
    have hc5 := (Free.cells_of hb5).1; have hf5 := (Free.cells_of hb5).2; have hz5 := hb5.size; (try simp only [World.size_alloc, World.size_setCell, World.size_drew] at hz5)
    (try (have : w.heap.size < w5.heap.size := (by omega))); (try (have : w.heap.size < w5.heap.size + 1 := (by omega))); (try (have : w.heap.size < w5.heap.size + 1 + 1 := (by omega))); (try (have : w.heap.size + 1 < w5.heap.size := (by omega))); (try (have : w.heap.size + 1 < w5.heap.size + 1 := (by omega))); (try (have : w.heap.size + 1 < w5.heap.size + 1 + 1 := (by omega))); (try (have : w.heap.size + 1 + 1 < w5.heap.size := (by omega))); (try (have : w.heap.size + 1 + 1 < w5.heap.size + 1 := (by omega))); (try (have : w.heap.size + 1 + 1 < w5.heap.size + 1 + 1 := (by omega))); (try (have : w.heap.size + 1 + 1 + 1 < w5.heap.size := (by omega))); (try (have : w.heap.size + 1 + 1 + 1 < w5.heap.size + 1 := (by omega))); (try (have : w.heap.size + 1 + 1 + 1 < w5.heap.size + 1 + 1 := (by omega))); (try (have : w3.heap.size < w5.heap.size := (by omega))); (try (have : w3.heap.size < w5.heap.size + 1 := (by omega))); (try (have : w3.heap.size < w5.heap.size + 1 + 1 := (by omega))); (try (have : w3.heap.size + 1 < w5.heap.size := (by omega))); (try (have : w3.heap.size + 1 < w5.heap.size + 1 := (by omega))); (try (have : w3.heap.size + 1 < w5.heap.size + 1 + 1 := (by omega))); (try (have : w3.heap.size + 1 + 1 < w5.heap.size := (by omega))); (try (have : w3.heap.size + 1 + 1 < w5.heap.size + 1 := (by omega))); (try (have : w3.heap.size + 1 + 1 < w5.heap.size + 1 + 1 := (by omega))); (try (have : w3.heap.size + 1 + 1 + 1 < w5.heap.size := (by omega))); (try (have : w3.heap.size + 1 + 1 + 1 < w5.heap.size + 1 := (by omega))); (try (have : w3.heap.size + 1 + 1 + 1 < w5.heap.size + 1 + 1 := (by omega))); (try (have : b4_8 < w5.heap.size := (by omega))); (try (have : b4_8 < w5.heap.size + 1 := (by omega))); (try (have : b4_8 < w5.heap.size + 1 + 1 := (by omega)))
    go_wp2
    first | (go_ret; exact HR.out _ (by repeat' first | with_reducible exact Below.refl _ _ | with_reducible assumption | with_reducible refine Free.Grow.alloc ?_ _ | with_reducible refine Free.Grow.setCell ?_ (by first | omega | (simp; done) | (simp; omega)) _ | with_reducible refine Free.Grow.drew ?_ | with_reducible refine Free.Grow.trans ?_ (by assumption))) | exact HR.out _ (by repeat' first | with_reducible exact Below.refl _ _ | with_reducible assumption | with_reducible refine Free.Grow.alloc ?_ _ | with_reducible refine Free.Grow.setCell ?_ (by first | omega | (simp; done) | (simp; omega)) _ | with_reducible refine Free.Grow.drew ?_ | with_reducible refine Free.Grow.trans ?_ (by assumption))

set_option maxRecDepth 100000 in
set_option maxHeartbeats 8000000 in
theorem walk_ok (nm : ByteArray) (bd x y z : Int) (a : Option Addr) (cap : Nat) (l : List St) (w : World) (hO : OrbIn w nm a cap l) (h40 : l.length ≤ 42) (h : plE nm.data.toList bd l x y z = 0)
    (HB : Hid (∀ w', Below w.heap.size w w' → Calls Try.prog 16 #[obV nm bd a l.length cap] w' fun e w'' => e = .returned (.bool true) ∧ Below w'.heap.size w' w'')) :
    Calls Try.prog 11 #[obV nm bd a l.length cap, v3 x y z] w fun e w' => e = .returned (.bool true) ∧ Below w.heap.size w w' := by
  have h2 := (firstE_two _ _).1 h
  have hR := (orbE_right h2.1).1
  obtain ⟨hx, hy, hz⟩ := placeE_zero h2.2
  obtain ⟨b, off, rfl, hbw, hmem⟩ := hO.mem hR
  have HC := Lib.hid (fun w' w0 S (h : OrbIn w' nm (some ⟨b, off, none⟩) cap l) (hs : Free.Safe w0 w' S) => Copy_rel (bd := bd) h (by omega) hs)
  have HN := Lib.hid (fun w' (g c : Nat) (h : OrbIn w' nm (some ⟨g, 0, none⟩) c l) => Nearest_any nm bd x y z (some ⟨g, 0, none⟩) c l w' h)
  rw [show nearOr nm.data.toList bd l x y z = nearTo (nsq l x y z) (frstT l) (nTicks l) by unfold nearOr; rw [if_pos h], h] at HN
  have HMB := Lib.hid (fun w' (g c : Nat) (h' : OrbIn w' nm (some ⟨g, 0, none⟩) c l) => MayBeNearest_ok' nm bd x y z (some ⟨g, 0, none⟩) c l w' h' h)
  have HCN := Lib.hid (fun w' (g c : Nat) (h : OrbIn w' nm (some ⟨g, 0, none⟩) c l) => CheckNearest_any nm bd x y z (mbR bd l x y z).1 (mbR bd l x y z).2 (mbB bd l x y z).1 (some ⟨g, 0, none⟩) c l w' h)
  rw [show cnOr nm.data.toList bd l x y z (mbR bd l x y z).1 (mbR bd l x y z).2 (mbB bd l x y z).1 = ((mbR bd l x y z).2 - (mbR bd l x y z).1 + 1, 0) by unfold cnOr; rw [if_pos h]; exact cnR_mb hR hx hy hz] at HCN
  have HRN := Lib.hid (fun w' (hS : HasSts w' b off l) (hb : b < w'.heap.size) => rNearest_any nm bd x y z b off cap l w' hR hS hb hx hy hz)
  have HRM := Lib.hid (fun w' (hS : HasSts w' b off l) (hb : b < w'.heap.size) => rMayBeNearest_any nm bd x y z b off cap l w' hR hS hb hx hy hz)
  have HEr := Lib.hid (fun w' (h : OrbIn w' nm (some ⟨b, off, none⟩) cap l) => Err_any nm bd (some ⟨b, off, none⟩) cap l w' h)
  rw [h2.1] at HEr
  have HP := Lib.hid (fun w => IsPlace_any x y z w)
  rw [show plB x y z = true from decide_eq_true h2.2] at HP
  have HWt := Lib.hid (fun w => rWithin_any (nearTo (nsq l x y z) (frstT l) (nTicks l)).1 (mbR bd l x y z).1 (mbR bd l x y z).2 w)
  rw [rngB_true.2 (near_in hR hx hy hz)] at HWt
  have M := mb_ok hR hx hy hz
  have m1 := M.b0
  have m2 := M.b1
  have m3 := M.r0
  have m4 := M.r1
  have m5 := M.r2
  have m6 := M.r3
  have hl := hR.n2
  have ht0 : 0 ≤ frstT l := (hR.ok 0 (by omega)).t0
  have ht1 : lastT l ≤ 1000000000 := (hR.ok (l.length - 1) (by omega)).t1
  have HO := Lib.hid hO
  have HM := Lib.hid hmem
  clear h hO hmem h2 hR M
  generalize nearTo (nsq l x y z) (frstT l) (nTicks l) = nt at *
  generalize mbB bd l x y z = bt at *
  generalize mbR bd l x y z = rg at *
  obtain ⟨n1, n2⟩ := nt
  obtain ⟨b1, b2⟩ := bt
  obtain ⟨r1, r2⟩ := rg
  simp only at HN HMB HCN HRN HRM HWt m1 m2 m3 m4 m5 m6
  have k1 : 0 ≤ r1 := by omega
  have k2 : r1 ≤ r2 := by omega
  have k3 : r2 ≤ 1000000000 := by omega
  clear m1 m2 m3 m4 m5 m6 ht0 ht1
  refine Calls.made fun R HR => ?_
  go_enter Try.func11, Try.ntmps11
  go_wp2_with (first | (go_at_call 15; refine (awake_any _).mono ?_; rintro e w1 ⟨rfl, hb1⟩; have hc1 := (Free.cells_of hb1).1; have hf1 := (Free.cells_of hb1).2; have hz1 := hb1.size; (try simp only [World.size_alloc, World.size_setCell, World.size_drew] at hz1); (try (have : w.heap.size < w1.heap.size := (by omega))); (try (have : w.heap.size < w1.heap.size + 1 := (by omega))); (try (have : w.heap.size < w1.heap.size + 1 + 1 := (by omega))); (try (have : w.heap.size + 1 < w1.heap.size := (by omega))); (try (have : w.heap.size + 1 < w1.heap.size + 1 := (by omega))); (try (have : w.heap.size + 1 < w1.heap.size + 1 + 1 := (by omega))); (try (have : w.heap.size + 1 + 1 < w1.heap.size := (by omega))); (try (have : w.heap.size + 1 + 1 < w1.heap.size + 1 := (by omega))); (try (have : w.heap.size + 1 + 1 < w1.heap.size + 1 + 1 := (by omega))); (try (have : w.heap.size + 1 + 1 + 1 < w1.heap.size := (by omega))); (try (have : w.heap.size + 1 + 1 + 1 < w1.heap.size + 1 := (by omega))); (try (have : w.heap.size + 1 + 1 + 1 < w1.heap.size + 1 + 1 := (by omega)))) | (go_at_call 16; refine (HB.out _ (by repeat' first | with_reducible exact Below.refl _ _ | with_reducible assumption | with_reducible refine Free.Grow.alloc ?_ _ | with_reducible refine Free.Grow.setCell ?_ (by first | omega | (simp; done) | (simp; omega)) _ | with_reducible refine Free.Grow.drew ?_ | with_reducible refine Free.Grow.trans ?_ (by assumption))).mono ?_; rintro e w2 ⟨rfl, hb2⟩; have hc2 := (Free.cells_of hb2).1; have hf2 := (Free.cells_of hb2).2; have hz2 := hb2.size; (try simp only [World.size_alloc, World.size_setCell, World.size_drew] at hz2); (try (have : w.heap.size < w2.heap.size := (by omega))); (try (have : w.heap.size < w2.heap.size + 1 := (by omega))); (try (have : w.heap.size < w2.heap.size + 1 + 1 := (by omega))); (try (have : w.heap.size + 1 < w2.heap.size := (by omega))); (try (have : w.heap.size + 1 < w2.heap.size + 1 := (by omega))); (try (have : w.heap.size + 1 < w2.heap.size + 1 + 1 := (by omega))); (try (have : w.heap.size + 1 + 1 < w2.heap.size := (by omega))); (try (have : w.heap.size + 1 + 1 < w2.heap.size + 1 := (by omega))); (try (have : w.heap.size + 1 + 1 < w2.heap.size + 1 + 1 := (by omega))); (try (have : w.heap.size + 1 + 1 + 1 < w2.heap.size := (by omega))); (try (have : w.heap.size + 1 + 1 + 1 < w2.heap.size + 1 := (by omega))); (try (have : w.heap.size + 1 + 1 + 1 < w2.heap.size + 1 + 1 := (by omega))); (try (have : w1.heap.size < w2.heap.size := (by omega))); (try (have : w1.heap.size < w2.heap.size + 1 := (by omega))); (try (have : w1.heap.size < w2.heap.size + 1 + 1 := (by omega))); (try (have : w1.heap.size + 1 < w2.heap.size := (by omega))); (try (have : w1.heap.size + 1 < w2.heap.size + 1 := (by omega))); (try (have : w1.heap.size + 1 < w2.heap.size + 1 + 1 := (by omega))); (try (have : w1.heap.size + 1 + 1 < w2.heap.size := (by omega))); (try (have : w1.heap.size + 1 + 1 < w2.heap.size + 1 := (by omega))); (try (have : w1.heap.size + 1 + 1 < w2.heap.size + 1 + 1 := (by omega))); (try (have : w1.heap.size + 1 + 1 + 1 < w2.heap.size := (by omega))); (try (have : w1.heap.size + 1 + 1 + 1 < w2.heap.size + 1 := (by omega))); (try (have : w1.heap.size + 1 + 1 + 1 < w2.heap.size + 1 + 1 := (by omega)))))
  refine Free.wp_region 11 #[0, 1, 0, 7, 15, 31, 31, 31, 63, 383, 1023] (by kernel_rfl) (by kernel_rfl) ?_
  simp only [List.take_succ_cons, List.take_zero]
  iterate 1
    refine Free.E.q (by rfl) ?_
    apply Exists.intro
    refine ⟨fun u w' hc hb => ?_, ?_⟩
    go_simp
    (try go_ints); (try simp only [Ob.ite_imx, Ob.ite_imn]); first | exact rfl | (go_simp; exact rfl) | (simp only [↓IntWalk.iteOmega]; (try go_simp); exact rfl)
    simp only [Act.put, List.setIfInBounds_toArray, List.set_cons_zero, List.set_cons_succ, List.nil_append, List.cons_append]
  refine Free.E.r (F := CopyF nm bd l) (by rfl) (CopyF.mono nm bd l) (fun u w' S hc hb hs => ?_) ?_
  · go_simp
    refine Free.relUpon_enter ?_
    exact HC.out _ _ _ (HO.out.below (by repeat' first | with_reducible exact Below.refl _ _ | with_reducible assumption | with_reducible refine Free.Grow.alloc ?_ _ | with_reducible refine Free.Grow.setCell ?_ (by first | omega | (simp; done) | (simp; omega)) _ | with_reducible refine Free.Grow.drew ?_ | with_reducible refine Free.Grow.trans ?_ (by assumption))) hs
  simp only [Act.put, List.setIfInBounds_toArray, List.set_cons_zero, List.set_cons_succ, List.nil_append, List.cons_append]
  iterate 1
    refine Free.E.q (by rfl) ?_
    apply Exists.intro
    refine ⟨fun u w' hc hb => ?_, ?_⟩
    go_simp
    (try go_ints); (try simp only [Ob.ite_imx, Ob.ite_imn]); first | exact rfl | (go_simp; exact rfl) | (simp only [↓IntWalk.iteOmega]; (try go_simp); exact rfl)
    simp only [Act.put, List.setIfInBounds_toArray, List.set_cons_zero, List.set_cons_succ, List.nil_append, List.cons_append]
  refine Free.E.qf (by rfl) ?_
  apply Exists.intro
  refine ⟨fun u w' S hc hb hF => ?_, ?_⟩
  · obtain ⟨gx, capx, hux, hgx, -, hOx⟩ := hF 1 _ rfl (by rfl)
    go_simp
    try simp only [hux]
    (go_at_call 49; exact HN.out _ _ _ hOx)
  simp only [Act.put, List.setIfInBounds_toArray, List.set_cons_zero, List.set_cons_succ, List.nil_append, List.cons_append]
  iterate 7
    refine Free.E.q (by rfl) ?_
    apply Exists.intro
    refine ⟨fun u w' hc hb => ?_, ?_⟩
    go_simp
    (try go_ints); (try simp only [Ob.ite_imx, Ob.ite_imn]); first | exact rfl | (go_simp; exact rfl) | (simp only [↓IntWalk.iteOmega]; (try go_simp); exact rfl)
    simp only [Act.put, List.setIfInBounds_toArray, List.set_cons_zero, List.set_cons_succ, List.nil_append, List.cons_append]
  refine Free.E.nil (fun u w3 S hF => ?_)
  have hb3 := hF.below
  have hm3_1 := hF.facts 1 _ rfl
  clear hF
  have hc3 := (Free.cells_of hb3).1
  have hf3 := (Free.cells_of hb3).2
  have hz3 := hb3.size
  obtain ⟨g3_1, cap3_1, hu3_1, hg3_1, -, hO3_1⟩ := hm3_1
  simp only [hu3_1]
  have HO3_1 := Lib.hid hO3_1
  clear hu3_1 hO3_1
  try simp only [World.size_alloc, World.size_setCell, World.size_drew] at hz3
  (try (have : w.heap.size < w3.heap.size := (by omega)))
  (try (have : w.heap.size < w3.heap.size + 1 := (by omega)))
  (try (have : w.heap.size < w3.heap.size + 1 + 1 := (by omega)))
  (try (have : w.heap.size + 1 < w3.heap.size := (by omega)))
  (try (have : w.heap.size + 1 < w3.heap.size + 1 := (by omega)))
  (try (have : w.heap.size + 1 < w3.heap.size + 1 + 1 := (by omega)))
  (try (have : w.heap.size + 1 + 1 < w3.heap.size := (by omega)))
  (try (have : w.heap.size + 1 + 1 < w3.heap.size + 1 := (by omega)))
  (try (have : w.heap.size + 1 + 1 < w3.heap.size + 1 + 1 := (by omega)))
  (try (have : w.heap.size + 1 + 1 + 1 < w3.heap.size := (by omega)))
  (try (have : w.heap.size + 1 + 1 + 1 < w3.heap.size + 1 := (by omega)))
  (try (have : w.heap.size + 1 + 1 + 1 < w3.heap.size + 1 + 1 := (by omega)))
  (try (have : w1.heap.size < w3.heap.size := (by omega)))
  (try (have : w1.heap.size < w3.heap.size + 1 := (by omega)))
  (try (have : w1.heap.size < w3.heap.size + 1 + 1 := (by omega)))
  (try (have : w1.heap.size + 1 < w3.heap.size := (by omega)))
  (try (have : w1.heap.size + 1 < w3.heap.size + 1 := (by omega)))
  (try (have : w1.heap.size + 1 < w3.heap.size + 1 + 1 := (by omega)))
  (try (have : w1.heap.size + 1 + 1 < w3.heap.size := (by omega)))
  (try (have : w1.heap.size + 1 + 1 < w3.heap.size + 1 := (by omega)))
  (try (have : w1.heap.size + 1 + 1 < w3.heap.size + 1 + 1 := (by omega)))
  (try (have : w1.heap.size + 1 + 1 + 1 < w3.heap.size := (by omega)))
  (try (have : w1.heap.size + 1 + 1 + 1 < w3.heap.size + 1 := (by omega)))
  (try (have : w1.heap.size + 1 + 1 + 1 < w3.heap.size + 1 + 1 := (by omega)))
  (try (have : w2.heap.size < w3.heap.size := (by omega)))
  (try (have : w2.heap.size < w3.heap.size + 1 := (by omega)))
  (try (have : w2.heap.size < w3.heap.size + 1 + 1 := (by omega)))
  (try (have : w2.heap.size + 1 < w3.heap.size := (by omega)))
  (try (have : w2.heap.size + 1 < w3.heap.size + 1 := (by omega)))
  (try (have : w2.heap.size + 1 < w3.heap.size + 1 + 1 := (by omega)))
  (try (have : w2.heap.size + 1 + 1 < w3.heap.size := (by omega)))
  (try (have : w2.heap.size + 1 + 1 < w3.heap.size + 1 := (by omega)))
  (try (have : w2.heap.size + 1 + 1 < w3.heap.size + 1 + 1 := (by omega)))
  (try (have : w2.heap.size + 1 + 1 + 1 < w3.heap.size := (by omega)))
  (try (have : w2.heap.size + 1 + 1 + 1 < w3.heap.size + 1 := (by omega)))
  (try (have : w2.heap.size + 1 + 1 + 1 < w3.heap.size + 1 + 1 := (by omega)))
  simp only [List.drop_succ_cons, List.drop_zero, List.drop_nil]
  go_wp2
  refine Free.wp_region 12 #[0, 1, 0, 7, 15, 31, 31, 31, 0, 319, 895, 2047] (by kernel_rfl) (by kernel_rfl) ?_
  simp only [List.take_succ_cons, List.take_zero]
  iterate 1
    refine Free.E.q (by rfl) ?_
    apply Exists.intro
    refine ⟨fun u w' hc hb => ?_, ?_⟩
    go_simp
    (try go_ints); (try simp only [Ob.ite_imx, Ob.ite_imn]); first | exact rfl | (go_simp; exact rfl) | (simp only [↓IntWalk.iteOmega]; (try go_simp); exact rfl)
    simp only [Act.put, List.setIfInBounds_toArray, List.set_cons_zero, List.set_cons_succ, List.nil_append, List.cons_append]
  refine Free.E.r (F := CopyF nm bd l) (by rfl) (CopyF.mono nm bd l) (fun u w' S hc hb hs => ?_) ?_
  · go_simp
    refine Free.relUpon_enter ?_
    exact HC.out _ _ _ (HO.out.below (by repeat' first | with_reducible exact Below.refl _ _ | with_reducible assumption | with_reducible refine Free.Grow.alloc ?_ _ | with_reducible refine Free.Grow.setCell ?_ (by first | omega | (simp; done) | (simp; omega)) _ | with_reducible refine Free.Grow.drew ?_ | with_reducible refine Free.Grow.trans ?_ (by assumption))) hs
  simp only [Act.put, List.setIfInBounds_toArray, List.set_cons_zero, List.set_cons_succ, List.nil_append, List.cons_append]
  iterate 1
    refine Free.E.q (by rfl) ?_
    apply Exists.intro
    refine ⟨fun u w' hc hb => ?_, ?_⟩
    go_simp
    (try go_ints); (try simp only [Ob.ite_imx, Ob.ite_imn]); first | exact rfl | (go_simp; exact rfl) | (simp only [↓IntWalk.iteOmega]; (try go_simp); exact rfl)
    simp only [Act.put, List.setIfInBounds_toArray, List.set_cons_zero, List.set_cons_succ, List.nil_append, List.cons_append]
  refine Free.E.qf (by rfl) ?_
  apply Exists.intro
  refine ⟨fun u w' S hc hb hF => ?_, ?_⟩
  · obtain ⟨gx, capx, hux, hgx, -, hOx⟩ := hF 1 _ rfl (by rfl)
    go_simp
    try simp only [hux]
    (go_at_call 50; exact HMB.out _ _ _ hOx)
  simp only [Act.put, List.setIfInBounds_toArray, List.set_cons_zero, List.set_cons_succ, List.nil_append, List.cons_append]
  iterate 4
    refine Free.E.q (by rfl) ?_
    apply Exists.intro
    refine ⟨fun u w' hc hb => ?_, ?_⟩
    go_simp
    (try go_ints); (try simp only [Ob.ite_imx, Ob.ite_imn]); first | exact rfl | (go_simp; exact rfl) | (simp only [↓IntWalk.iteOmega]; (try go_simp); exact rfl)
    simp only [Act.put, List.setIfInBounds_toArray, List.set_cons_zero, List.set_cons_succ, List.nil_append, List.cons_append]
  refine Free.E.new (z := #[.int .i64 0, .int .i64 0]) (by rfl) rfl (by kernel_rfl) ?_
  simp only [Act.put, List.setIfInBounds_toArray, List.set_cons_zero, List.set_cons_succ, List.nil_append, List.cons_append]
  refine Free.E.init (k := 8) (by rfl) (by rfl) rfl rfl (by rfl) (by decide) (by rfl) (fun _ => rfl) (fun _ => rfl) (by kernel_rfl) rfl rfl (by rfl) ?_
  simp only [List.nil_append, List.cons_append]
  iterate 2
    refine Free.E.q (by rfl) ?_
    apply Exists.intro
    refine ⟨fun u w' hc hb => ?_, ?_⟩
    go_simp
    (try go_ints); (try simp only [Ob.ite_imx, Ob.ite_imn]); first | exact rfl | (go_simp; exact rfl) | (simp only [↓IntWalk.iteOmega]; (try go_simp); exact rfl)
    simp only [Act.put, List.setIfInBounds_toArray, List.set_cons_zero, List.set_cons_succ, List.nil_append, List.cons_append]
  refine Free.E.nil (fun u w4 S hF => ?_)
  have hb4 := hF.below
  obtain ⟨b4_8, hu4_8, hlo4_8, hhi4_8, -, hk4_8⟩ := hF.allocs 8 _ _ rfl
  simp only [Free.final, List.findSome?, reduceIte, Option.getD_some, Option.getD_none, Nat.reduceEqDiff, Value.cells] at hk4_8
  have hm4_1 := hF.facts 1 _ rfl
  clear hF
  have hc4 := (Free.cells_of hb4).1
  have hf4 := (Free.cells_of hb4).2
  have hz4 := hb4.size
  simp only [hu4_8]
  have hcb4_8 := Free.cell_of_blk hk4_8
  have hfb4_8 := Free.frozen_of_blk hk4_8
  clear hu4_8 hk4_8
  obtain ⟨g4_1, cap4_1, hu4_1, hg4_1, -, hO4_1⟩ := hm4_1
  simp only [hu4_1]
  have HO4_1 := Lib.hid hO4_1
  clear hu4_1 hO4_1
  try simp only [World.size_alloc, World.size_setCell, World.size_drew] at hz4 hlo4_8
  (try (have : w.heap.size < w4.heap.size := (by omega)))
  (try (have : w.heap.size < w4.heap.size + 1 := (by omega)))
  (try (have : w.heap.size < w4.heap.size + 1 + 1 := (by omega)))
  (try (have : w.heap.size + 1 < w4.heap.size := (by omega)))
  (try (have : w.heap.size + 1 < w4.heap.size + 1 := (by omega)))
  (try (have : w.heap.size + 1 < w4.heap.size + 1 + 1 := (by omega)))
  (try (have : w.heap.size + 1 + 1 < w4.heap.size := (by omega)))
  (try (have : w.heap.size + 1 + 1 < w4.heap.size + 1 := (by omega)))
  (try (have : w.heap.size + 1 + 1 < w4.heap.size + 1 + 1 := (by omega)))
  (try (have : w.heap.size + 1 + 1 + 1 < w4.heap.size := (by omega)))
  (try (have : w.heap.size + 1 + 1 + 1 < w4.heap.size + 1 := (by omega)))
  (try (have : w.heap.size + 1 + 1 + 1 < w4.heap.size + 1 + 1 := (by omega)))
  (try (have : w1.heap.size < w4.heap.size := (by omega)))
  (try (have : w1.heap.size < w4.heap.size + 1 := (by omega)))
  (try (have : w1.heap.size < w4.heap.size + 1 + 1 := (by omega)))
  (try (have : w1.heap.size + 1 < w4.heap.size := (by omega)))
  (try (have : w1.heap.size + 1 < w4.heap.size + 1 := (by omega)))
  (try (have : w1.heap.size + 1 < w4.heap.size + 1 + 1 := (by omega)))
  (try (have : w1.heap.size + 1 + 1 < w4.heap.size := (by omega)))
  (try (have : w1.heap.size + 1 + 1 < w4.heap.size + 1 := (by omega)))
  (try (have : w1.heap.size + 1 + 1 < w4.heap.size + 1 + 1 := (by omega)))
  (try (have : w1.heap.size + 1 + 1 + 1 < w4.heap.size := (by omega)))
  (try (have : w1.heap.size + 1 + 1 + 1 < w4.heap.size + 1 := (by omega)))
  (try (have : w1.heap.size + 1 + 1 + 1 < w4.heap.size + 1 + 1 := (by omega)))
  (try (have : w2.heap.size < w4.heap.size := (by omega)))
  (try (have : w2.heap.size < w4.heap.size + 1 := (by omega)))
  (try (have : w2.heap.size < w4.heap.size + 1 + 1 := (by omega)))
  (try (have : w2.heap.size + 1 < w4.heap.size := (by omega)))
  (try (have : w2.heap.size + 1 < w4.heap.size + 1 := (by omega)))
  (try (have : w2.heap.size + 1 < w4.heap.size + 1 + 1 := (by omega)))
  (try (have : w2.heap.size + 1 + 1 < w4.heap.size := (by omega)))
  (try (have : w2.heap.size + 1 + 1 < w4.heap.size + 1 := (by omega)))
  (try (have : w2.heap.size + 1 + 1 < w4.heap.size + 1 + 1 := (by omega)))
  (try (have : w2.heap.size + 1 + 1 + 1 < w4.heap.size := (by omega)))
  (try (have : w2.heap.size + 1 + 1 + 1 < w4.heap.size + 1 := (by omega)))
  (try (have : w2.heap.size + 1 + 1 + 1 < w4.heap.size + 1 + 1 := (by omega)))
  (try (have : w3.heap.size < w4.heap.size := (by omega)))
  (try (have : w3.heap.size < w4.heap.size + 1 := (by omega)))
  (try (have : w3.heap.size < w4.heap.size + 1 + 1 := (by omega)))
  (try (have : w3.heap.size + 1 < w4.heap.size := (by omega)))
  (try (have : w3.heap.size + 1 < w4.heap.size + 1 := (by omega)))
  (try (have : w3.heap.size + 1 < w4.heap.size + 1 + 1 := (by omega)))
  (try (have : w3.heap.size + 1 + 1 < w4.heap.size := (by omega)))
  (try (have : w3.heap.size + 1 + 1 < w4.heap.size + 1 := (by omega)))
  (try (have : w3.heap.size + 1 + 1 < w4.heap.size + 1 + 1 := (by omega)))
  (try (have : w3.heap.size + 1 + 1 + 1 < w4.heap.size := (by omega)))
  (try (have : w3.heap.size + 1 + 1 + 1 < w4.heap.size + 1 := (by omega)))
  (try (have : w3.heap.size + 1 + 1 + 1 < w4.heap.size + 1 + 1 := (by omega)))
  simp only [List.drop_succ_cons, List.drop_zero, List.drop_nil]
  go_wp2_with fail
  refine (HEr.out _ (HO.out.below (by repeat' first | with_reducible exact Below.refl _ _ | with_reducible assumption | with_reducible refine Free.Grow.alloc ?_ _ | with_reducible refine Free.Grow.setCell ?_ (by first | omega | (simp; done) | (simp; omega)) _ | with_reducible refine Free.Grow.drew ?_ | with_reducible refine Free.Grow.trans ?_ (by assumption)))).mono ?_
  rintro e w5 ⟨rfl, hb5⟩
  have hc5 := (Free.cells_of hb5).1; have hf5 := (Free.cells_of hb5).2; have hz5 := hb5.size; (try simp only [World.size_alloc, World.size_setCell, World.size_drew] at hz5)
  (try (have : w.heap.size < w5.heap.size := (by omega))); (try (have : w.heap.size < w5.heap.size + 1 := (by omega))); (try (have : w.heap.size < w5.heap.size + 1 + 1 := (by omega))); (try (have : w.heap.size + 1 < w5.heap.size := (by omega))); (try (have : w.heap.size + 1 < w5.heap.size + 1 := (by omega))); (try (have : w.heap.size + 1 < w5.heap.size + 1 + 1 := (by omega))); (try (have : w.heap.size + 1 + 1 < w5.heap.size := (by omega))); (try (have : w.heap.size + 1 + 1 < w5.heap.size + 1 := (by omega))); (try (have : w.heap.size + 1 + 1 < w5.heap.size + 1 + 1 := (by omega))); (try (have : w.heap.size + 1 + 1 + 1 < w5.heap.size := (by omega))); (try (have : w.heap.size + 1 + 1 + 1 < w5.heap.size + 1 := (by omega))); (try (have : w.heap.size + 1 + 1 + 1 < w5.heap.size + 1 + 1 := (by omega))); (try (have : w3.heap.size < w5.heap.size := (by omega))); (try (have : w3.heap.size < w5.heap.size + 1 := (by omega))); (try (have : w3.heap.size < w5.heap.size + 1 + 1 := (by omega))); (try (have : w3.heap.size + 1 < w5.heap.size := (by omega))); (try (have : w3.heap.size + 1 < w5.heap.size + 1 := (by omega))); (try (have : w3.heap.size + 1 < w5.heap.size + 1 + 1 := (by omega))); (try (have : w3.heap.size + 1 + 1 < w5.heap.size := (by omega))); (try (have : w3.heap.size + 1 + 1 < w5.heap.size + 1 := (by omega))); (try (have : w3.heap.size + 1 + 1 < w5.heap.size + 1 + 1 := (by omega))); (try (have : w3.heap.size + 1 + 1 + 1 < w5.heap.size := (by omega))); (try (have : w3.heap.size + 1 + 1 + 1 < w5.heap.size + 1 := (by omega))); (try (have : w3.heap.size + 1 + 1 + 1 < w5.heap.size + 1 + 1 := (by omega))); (try (have : b4_8 < w5.heap.size := (by omega))); (try (have : b4_8 < w5.heap.size + 1 := (by omega))); (try (have : b4_8 < w5.heap.size + 1 + 1 := (by omega)))
  go_wp2_with (first | (go_at_call 20; refine (HP.out _).mono ?_; rintro e w6 ⟨rfl, hb6⟩; have hc6 := (Free.cells_of hb6).1; have hf6 := (Free.cells_of hb6).2; have hz6 := hb6.size; (try simp only [World.size_alloc, World.size_setCell, World.size_drew] at hz6); (try (have : w.heap.size < w6.heap.size := (by omega))); (try (have : w.heap.size < w6.heap.size + 1 := (by omega))); (try (have : w.heap.size < w6.heap.size + 1 + 1 := (by omega))); (try (have : w.heap.size + 1 < w6.heap.size := (by omega))); (try (have : w.heap.size + 1 < w6.heap.size + 1 := (by omega))); (try (have : w.heap.size + 1 < w6.heap.size + 1 + 1 := (by omega))); (try (have : w.heap.size + 1 + 1 < w6.heap.size := (by omega))); (try (have : w.heap.size + 1 + 1 < w6.heap.size + 1 := (by omega))); (try (have : w.heap.size + 1 + 1 < w6.heap.size + 1 + 1 := (by omega))); (try (have : w.heap.size + 1 + 1 + 1 < w6.heap.size := (by omega))); (try (have : w.heap.size + 1 + 1 + 1 < w6.heap.size + 1 := (by omega))); (try (have : w.heap.size + 1 + 1 + 1 < w6.heap.size + 1 + 1 := (by omega))); (try (have : w3.heap.size < w6.heap.size := (by omega))); (try (have : w3.heap.size < w6.heap.size + 1 := (by omega))); (try (have : w3.heap.size < w6.heap.size + 1 + 1 := (by omega))); (try (have : w3.heap.size + 1 < w6.heap.size := (by omega))); (try (have : w3.heap.size + 1 < w6.heap.size + 1 := (by omega))); (try (have : w3.heap.size + 1 < w6.heap.size + 1 + 1 := (by omega))); (try (have : w3.heap.size + 1 + 1 < w6.heap.size := (by omega))); (try (have : w3.heap.size + 1 + 1 < w6.heap.size + 1 := (by omega))); (try (have : w3.heap.size + 1 + 1 < w6.heap.size + 1 + 1 := (by omega))); (try (have : w3.heap.size + 1 + 1 + 1 < w6.heap.size := (by omega))); (try (have : w3.heap.size + 1 + 1 + 1 < w6.heap.size + 1 := (by omega))); (try (have : w3.heap.size + 1 + 1 + 1 < w6.heap.size + 1 + 1 := (by omega))); (try (have : w5.heap.size < w6.heap.size := (by omega))); (try (have : w5.heap.size < w6.heap.size + 1 := (by omega))); (try (have : w5.heap.size < w6.heap.size + 1 + 1 := (by omega))); (try (have : w5.heap.size + 1 < w6.heap.size := (by omega))); (try (have : w5.heap.size + 1 < w6.heap.size + 1 := (by omega))); (try (have : w5.heap.size + 1 < w6.heap.size + 1 + 1 := (by omega))); (try (have : w5.heap.size + 1 + 1 < w6.heap.size := (by omega))); (try (have : w5.heap.size + 1 + 1 < w6.heap.size + 1 := (by omega))); (try (have : w5.heap.size + 1 + 1 < w6.heap.size + 1 + 1 := (by omega))); (try (have : w5.heap.size + 1 + 1 + 1 < w6.heap.size := (by omega))); (try (have : w5.heap.size + 1 + 1 + 1 < w6.heap.size + 1 := (by omega))); (try (have : w5.heap.size + 1 + 1 + 1 < w6.heap.size + 1 + 1 := (by omega))); (try (have : b4_8 < w6.heap.size := (by omega))); (try (have : b4_8 < w6.heap.size + 1 := (by omega))); (try (have : b4_8 < w6.heap.size + 1 + 1 := (by omega)))) | (go_at_call 51; refine (HRN.out _ (HM.out.below (B := w.heap.size) (by repeat' first | with_reducible exact Below.refl _ _ | with_reducible assumption | with_reducible refine Free.Grow.alloc ?_ _ | with_reducible refine Free.Grow.setCell ?_ (by first | omega | (simp; done) | (simp; omega)) _ | with_reducible refine Free.Grow.drew ?_ | with_reducible refine Free.Grow.trans ?_ (by assumption)) hbw) (by first | omega | (simp; done) | (simp; omega))).mono ?_; rintro e w7 ⟨rfl, hb7⟩; have hc7 := (Free.cells_of hb7).1; have hf7 := (Free.cells_of hb7).2; have hz7 := hb7.size; (try simp only [World.size_alloc, World.size_setCell, World.size_drew] at hz7); (try (have : w.heap.size < w7.heap.size := (by omega))); (try (have : w.heap.size < w7.heap.size + 1 := (by omega))); (try (have : w.heap.size < w7.heap.size + 1 + 1 := (by omega))); (try (have : w.heap.size + 1 < w7.heap.size := (by omega))); (try (have : w.heap.size + 1 < w7.heap.size + 1 := (by omega))); (try (have : w.heap.size + 1 < w7.heap.size + 1 + 1 := (by omega))); (try (have : w.heap.size + 1 + 1 < w7.heap.size := (by omega))); (try (have : w.heap.size + 1 + 1 < w7.heap.size + 1 := (by omega))); (try (have : w.heap.size + 1 + 1 < w7.heap.size + 1 + 1 := (by omega))); (try (have : w.heap.size + 1 + 1 + 1 < w7.heap.size := (by omega))); (try (have : w.heap.size + 1 + 1 + 1 < w7.heap.size + 1 := (by omega))); (try (have : w.heap.size + 1 + 1 + 1 < w7.heap.size + 1 + 1 := (by omega))); (try (have : w3.heap.size < w7.heap.size := (by omega))); (try (have : w3.heap.size < w7.heap.size + 1 := (by omega))); (try (have : w3.heap.size < w7.heap.size + 1 + 1 := (by omega))); (try (have : w3.heap.size + 1 < w7.heap.size := (by omega))); (try (have : w3.heap.size + 1 < w7.heap.size + 1 := (by omega))); (try (have : w3.heap.size + 1 < w7.heap.size + 1 + 1 := (by omega))); (try (have : w3.heap.size + 1 + 1 < w7.heap.size := (by omega))); (try (have : w3.heap.size + 1 + 1 < w7.heap.size + 1 := (by omega))); (try (have : w3.heap.size + 1 + 1 < w7.heap.size + 1 + 1 := (by omega))); (try (have : w3.heap.size + 1 + 1 + 1 < w7.heap.size := (by omega))); (try (have : w3.heap.size + 1 + 1 + 1 < w7.heap.size + 1 := (by omega))); (try (have : w3.heap.size + 1 + 1 + 1 < w7.heap.size + 1 + 1 := (by omega))); (try (have : w5.heap.size < w7.heap.size := (by omega))); (try (have : w5.heap.size < w7.heap.size + 1 := (by omega))); (try (have : w5.heap.size < w7.heap.size + 1 + 1 := (by omega))); (try (have : w5.heap.size + 1 < w7.heap.size := (by omega))); (try (have : w5.heap.size + 1 < w7.heap.size + 1 := (by omega))); (try (have : w5.heap.size + 1 < w7.heap.size + 1 + 1 := (by omega))); (try (have : w5.heap.size + 1 + 1 < w7.heap.size := (by omega))); (try (have : w5.heap.size + 1 + 1 < w7.heap.size + 1 := (by omega))); (try (have : w5.heap.size + 1 + 1 < w7.heap.size + 1 + 1 := (by omega))); (try (have : w5.heap.size + 1 + 1 + 1 < w7.heap.size := (by omega))); (try (have : w5.heap.size + 1 + 1 + 1 < w7.heap.size + 1 := (by omega))); (try (have : w5.heap.size + 1 + 1 + 1 < w7.heap.size + 1 + 1 := (by omega))); (try (have : w6.heap.size < w7.heap.size := (by omega))); (try (have : w6.heap.size < w7.heap.size + 1 := (by omega))); (try (have : w6.heap.size < w7.heap.size + 1 + 1 := (by omega))); (try (have : w6.heap.size + 1 < w7.heap.size := (by omega))); (try (have : w6.heap.size + 1 < w7.heap.size + 1 := (by omega))); (try (have : w6.heap.size + 1 < w7.heap.size + 1 + 1 := (by omega))); (try (have : w6.heap.size + 1 + 1 < w7.heap.size := (by omega))); (try (have : w6.heap.size + 1 + 1 < w7.heap.size + 1 := (by omega))); (try (have : w6.heap.size + 1 + 1 < w7.heap.size + 1 + 1 := (by omega))); (try (have : w6.heap.size + 1 + 1 + 1 < w7.heap.size := (by omega))); (try (have : w6.heap.size + 1 + 1 + 1 < w7.heap.size + 1 := (by omega))); (try (have : w6.heap.size + 1 + 1 + 1 < w7.heap.size + 1 + 1 := (by omega))); (try (have : b4_8 < w7.heap.size := (by omega))); (try (have : b4_8 < w7.heap.size + 1 := (by omega))); (try (have : b4_8 < w7.heap.size + 1 + 1 := (by omega)))) | (go_at_call 52; refine (HRM.out _ (HM.out.below (B := w.heap.size) (by repeat' first | with_reducible exact Below.refl _ _ | with_reducible assumption | with_reducible refine Free.Grow.alloc ?_ _ | with_reducible refine Free.Grow.setCell ?_ (by first | omega | (simp; done) | (simp; omega)) _ | with_reducible refine Free.Grow.drew ?_ | with_reducible refine Free.Grow.trans ?_ (by assumption)) hbw) (by first | omega | (simp; done) | (simp; omega))).mono ?_; rintro e w8 ⟨rfl, hb8⟩; have hc8 := (Free.cells_of hb8).1; have hf8 := (Free.cells_of hb8).2; have hz8 := hb8.size; (try simp only [World.size_alloc, World.size_setCell, World.size_drew] at hz8); (try (have : w.heap.size < w8.heap.size := (by omega))); (try (have : w.heap.size < w8.heap.size + 1 := (by omega))); (try (have : w.heap.size < w8.heap.size + 1 + 1 := (by omega))); (try (have : w.heap.size + 1 < w8.heap.size := (by omega))); (try (have : w.heap.size + 1 < w8.heap.size + 1 := (by omega))); (try (have : w.heap.size + 1 < w8.heap.size + 1 + 1 := (by omega))); (try (have : w.heap.size + 1 + 1 < w8.heap.size := (by omega))); (try (have : w.heap.size + 1 + 1 < w8.heap.size + 1 := (by omega))); (try (have : w.heap.size + 1 + 1 < w8.heap.size + 1 + 1 := (by omega))); (try (have : w.heap.size + 1 + 1 + 1 < w8.heap.size := (by omega))); (try (have : w.heap.size + 1 + 1 + 1 < w8.heap.size + 1 := (by omega))); (try (have : w.heap.size + 1 + 1 + 1 < w8.heap.size + 1 + 1 := (by omega))); (try (have : w3.heap.size < w8.heap.size := (by omega))); (try (have : w3.heap.size < w8.heap.size + 1 := (by omega))); (try (have : w3.heap.size < w8.heap.size + 1 + 1 := (by omega))); (try (have : w3.heap.size + 1 < w8.heap.size := (by omega))); (try (have : w3.heap.size + 1 < w8.heap.size + 1 := (by omega))); (try (have : w3.heap.size + 1 < w8.heap.size + 1 + 1 := (by omega))); (try (have : w3.heap.size + 1 + 1 < w8.heap.size := (by omega))); (try (have : w3.heap.size + 1 + 1 < w8.heap.size + 1 := (by omega))); (try (have : w3.heap.size + 1 + 1 < w8.heap.size + 1 + 1 := (by omega))); (try (have : w3.heap.size + 1 + 1 + 1 < w8.heap.size := (by omega))); (try (have : w3.heap.size + 1 + 1 + 1 < w8.heap.size + 1 := (by omega))); (try (have : w3.heap.size + 1 + 1 + 1 < w8.heap.size + 1 + 1 := (by omega))); (try (have : w5.heap.size < w8.heap.size := (by omega))); (try (have : w5.heap.size < w8.heap.size + 1 := (by omega))); (try (have : w5.heap.size < w8.heap.size + 1 + 1 := (by omega))); (try (have : w5.heap.size + 1 < w8.heap.size := (by omega))); (try (have : w5.heap.size + 1 < w8.heap.size + 1 := (by omega))); (try (have : w5.heap.size + 1 < w8.heap.size + 1 + 1 := (by omega))); (try (have : w5.heap.size + 1 + 1 < w8.heap.size := (by omega))); (try (have : w5.heap.size + 1 + 1 < w8.heap.size + 1 := (by omega))); (try (have : w5.heap.size + 1 + 1 < w8.heap.size + 1 + 1 := (by omega))); (try (have : w5.heap.size + 1 + 1 + 1 < w8.heap.size := (by omega))); (try (have : w5.heap.size + 1 + 1 + 1 < w8.heap.size + 1 := (by omega))); (try (have : w5.heap.size + 1 + 1 + 1 < w8.heap.size + 1 + 1 := (by omega))); (try (have : w6.heap.size < w8.heap.size := (by omega))); (try (have : w6.heap.size < w8.heap.size + 1 := (by omega))); (try (have : w6.heap.size < w8.heap.size + 1 + 1 := (by omega))); (try (have : w6.heap.size + 1 < w8.heap.size := (by omega))); (try (have : w6.heap.size + 1 < w8.heap.size + 1 := (by omega))); (try (have : w6.heap.size + 1 < w8.heap.size + 1 + 1 := (by omega))); (try (have : w6.heap.size + 1 + 1 < w8.heap.size := (by omega))); (try (have : w6.heap.size + 1 + 1 < w8.heap.size + 1 := (by omega))); (try (have : w6.heap.size + 1 + 1 < w8.heap.size + 1 + 1 := (by omega))); (try (have : w6.heap.size + 1 + 1 + 1 < w8.heap.size := (by omega))); (try (have : w6.heap.size + 1 + 1 + 1 < w8.heap.size + 1 := (by omega))); (try (have : w6.heap.size + 1 + 1 + 1 < w8.heap.size + 1 + 1 := (by omega))); (try (have : w7.heap.size < w8.heap.size := (by omega))); (try (have : w7.heap.size < w8.heap.size + 1 := (by omega))); (try (have : w7.heap.size < w8.heap.size + 1 + 1 := (by omega))); (try (have : w7.heap.size + 1 < w8.heap.size := (by omega))); (try (have : w7.heap.size + 1 < w8.heap.size + 1 := (by omega))); (try (have : w7.heap.size + 1 < w8.heap.size + 1 + 1 := (by omega))); (try (have : w7.heap.size + 1 + 1 < w8.heap.size := (by omega))); (try (have : w7.heap.size + 1 + 1 < w8.heap.size + 1 := (by omega))); (try (have : w7.heap.size + 1 + 1 < w8.heap.size + 1 + 1 := (by omega))); (try (have : w7.heap.size + 1 + 1 + 1 < w8.heap.size := (by omega))); (try (have : w7.heap.size + 1 + 1 + 1 < w8.heap.size + 1 := (by omega))); (try (have : w7.heap.size + 1 + 1 + 1 < w8.heap.size + 1 + 1 := (by omega))); (try (have : b4_8 < w8.heap.size := (by omega))); (try (have : b4_8 < w8.heap.size + 1 := (by omega))); (try (have : b4_8 < w8.heap.size + 1 + 1 := (by omega)))))
  refine Free.wp_region 12 #[0, 1, 0, 0, 0, 24, 63, 127, 255, 255, 511, 2047] (by kernel_rfl) (by kernel_rfl) ?_
  simp only [List.take_succ_cons, List.take_zero]
  iterate 1
    refine Free.E.q (by rfl) ?_
    apply Exists.intro
    refine ⟨fun u w' hc hb => ?_, ?_⟩
    go_simp
    (try go_ints); (try simp only [Ob.ite_imx, Ob.ite_imn]); first | exact rfl | (go_simp; exact rfl) | (simp only [↓IntWalk.iteOmega]; (try go_simp); exact rfl)
    simp only [Act.put, List.setIfInBounds_toArray, List.set_cons_zero, List.set_cons_succ, List.nil_append, List.cons_append]
  refine Free.E.r (F := CopyF nm bd l) (by rfl) (CopyF.mono nm bd l) (fun u w' S hc hb hs => ?_) ?_
  · go_simp
    refine Free.relUpon_enter ?_
    exact HC.out _ _ _ (HO.out.below (by repeat' first | with_reducible exact Below.refl _ _ | with_reducible assumption | with_reducible refine Free.Grow.alloc ?_ _ | with_reducible refine Free.Grow.setCell ?_ (by first | omega | (simp; done) | (simp; omega)) _ | with_reducible refine Free.Grow.drew ?_ | with_reducible refine Free.Grow.trans ?_ (by assumption))) hs
  simp only [Act.put, List.setIfInBounds_toArray, List.set_cons_zero, List.set_cons_succ, List.nil_append, List.cons_append]
  iterate 4
    refine Free.E.q (by rfl) ?_
    apply Exists.intro
    refine ⟨fun u w' hc hb => ?_, ?_⟩
    go_simp
    (try go_ints); (try simp only [Ob.ite_imx, Ob.ite_imn]); first | exact rfl | (go_simp; exact rfl) | (simp only [↓IntWalk.iteOmega]; (try go_simp); exact rfl)
    simp only [Act.put, List.setIfInBounds_toArray, List.set_cons_zero, List.set_cons_succ, List.nil_append, List.cons_append]
  refine Free.E.qf (by rfl) ?_
  apply Exists.intro
  refine ⟨fun u w' S hc hb hF => ?_, ?_⟩
  · obtain ⟨gx, capx, hux, hgx, -, hOx⟩ := hF 1 _ rfl (by rfl)
    go_simp
    try simp only [hux]
    (go_at_call 31; exact HCN.out _ _ _ hOx)
  simp only [Act.put, List.setIfInBounds_toArray, List.set_cons_zero, List.set_cons_succ, List.nil_append, List.cons_append]
  iterate 5
    refine Free.E.q (by rfl) ?_
    apply Exists.intro
    refine ⟨fun u w' hc hb => ?_, ?_⟩
    go_simp
    (try go_ints); (try simp only [Ob.ite_imx, Ob.ite_imn]); first | exact rfl | (go_simp; exact rfl) | (simp only [↓IntWalk.iteOmega]; (try go_simp); exact rfl)
    simp only [Act.put, List.setIfInBounds_toArray, List.set_cons_zero, List.set_cons_succ, List.nil_append, List.cons_append]
  refine Free.E.nil (fun u w9 S hF => ?_)
  have hb9 := hF.below
  have hm9_1 := hF.facts 1 _ rfl
  clear hF
  have hc9 := (Free.cells_of hb9).1
  have hf9 := (Free.cells_of hb9).2
  have hz9 := hb9.size
  obtain ⟨g9_1, cap9_1, hu9_1, hg9_1, -, hO9_1⟩ := hm9_1
  simp only [hu9_1]
  have HO9_1 := Lib.hid hO9_1
  clear hu9_1 hO9_1
  try simp only [World.size_alloc, World.size_setCell, World.size_drew] at hz9
  (try (have : w.heap.size < w9.heap.size := (by omega)))
  (try (have : w.heap.size < w9.heap.size + 1 := (by omega)))
  (try (have : w.heap.size < w9.heap.size + 1 + 1 := (by omega)))
  (try (have : w.heap.size + 1 < w9.heap.size := (by omega)))
  (try (have : w.heap.size + 1 < w9.heap.size + 1 := (by omega)))
  (try (have : w.heap.size + 1 < w9.heap.size + 1 + 1 := (by omega)))
  (try (have : w.heap.size + 1 + 1 < w9.heap.size := (by omega)))
  (try (have : w.heap.size + 1 + 1 < w9.heap.size + 1 := (by omega)))
  (try (have : w.heap.size + 1 + 1 < w9.heap.size + 1 + 1 := (by omega)))
  (try (have : w.heap.size + 1 + 1 + 1 < w9.heap.size := (by omega)))
  (try (have : w.heap.size + 1 + 1 + 1 < w9.heap.size + 1 := (by omega)))
  (try (have : w.heap.size + 1 + 1 + 1 < w9.heap.size + 1 + 1 := (by omega)))
  (try (have : w3.heap.size < w9.heap.size := (by omega)))
  (try (have : w3.heap.size < w9.heap.size + 1 := (by omega)))
  (try (have : w3.heap.size < w9.heap.size + 1 + 1 := (by omega)))
  (try (have : w3.heap.size + 1 < w9.heap.size := (by omega)))
  (try (have : w3.heap.size + 1 < w9.heap.size + 1 := (by omega)))
  (try (have : w3.heap.size + 1 < w9.heap.size + 1 + 1 := (by omega)))
  (try (have : w3.heap.size + 1 + 1 < w9.heap.size := (by omega)))
  (try (have : w3.heap.size + 1 + 1 < w9.heap.size + 1 := (by omega)))
  (try (have : w3.heap.size + 1 + 1 < w9.heap.size + 1 + 1 := (by omega)))
  (try (have : w3.heap.size + 1 + 1 + 1 < w9.heap.size := (by omega)))
  (try (have : w3.heap.size + 1 + 1 + 1 < w9.heap.size + 1 := (by omega)))
  (try (have : w3.heap.size + 1 + 1 + 1 < w9.heap.size + 1 + 1 := (by omega)))
  (try (have : w5.heap.size < w9.heap.size := (by omega)))
  (try (have : w5.heap.size < w9.heap.size + 1 := (by omega)))
  (try (have : w5.heap.size < w9.heap.size + 1 + 1 := (by omega)))
  (try (have : w5.heap.size + 1 < w9.heap.size := (by omega)))
  (try (have : w5.heap.size + 1 < w9.heap.size + 1 := (by omega)))
  (try (have : w5.heap.size + 1 < w9.heap.size + 1 + 1 := (by omega)))
  (try (have : w5.heap.size + 1 + 1 < w9.heap.size := (by omega)))
  (try (have : w5.heap.size + 1 + 1 < w9.heap.size + 1 := (by omega)))
  (try (have : w5.heap.size + 1 + 1 < w9.heap.size + 1 + 1 := (by omega)))
  (try (have : w5.heap.size + 1 + 1 + 1 < w9.heap.size := (by omega)))
  (try (have : w5.heap.size + 1 + 1 + 1 < w9.heap.size + 1 := (by omega)))
  (try (have : w5.heap.size + 1 + 1 + 1 < w9.heap.size + 1 + 1 := (by omega)))
  (try (have : w6.heap.size < w9.heap.size := (by omega)))
  (try (have : w6.heap.size < w9.heap.size + 1 := (by omega)))
  (try (have : w6.heap.size < w9.heap.size + 1 + 1 := (by omega)))
  (try (have : w6.heap.size + 1 < w9.heap.size := (by omega)))
  (try (have : w6.heap.size + 1 < w9.heap.size + 1 := (by omega)))
  (try (have : w6.heap.size + 1 < w9.heap.size + 1 + 1 := (by omega)))
  (try (have : w6.heap.size + 1 + 1 < w9.heap.size := (by omega)))
  (try (have : w6.heap.size + 1 + 1 < w9.heap.size + 1 := (by omega)))
  (try (have : w6.heap.size + 1 + 1 < w9.heap.size + 1 + 1 := (by omega)))
  (try (have : w6.heap.size + 1 + 1 + 1 < w9.heap.size := (by omega)))
  (try (have : w6.heap.size + 1 + 1 + 1 < w9.heap.size + 1 := (by omega)))
  (try (have : w6.heap.size + 1 + 1 + 1 < w9.heap.size + 1 + 1 := (by omega)))
  (try (have : w7.heap.size < w9.heap.size := (by omega)))
  (try (have : w7.heap.size < w9.heap.size + 1 := (by omega)))
  (try (have : w7.heap.size < w9.heap.size + 1 + 1 := (by omega)))
  (try (have : w7.heap.size + 1 < w9.heap.size := (by omega)))
  (try (have : w7.heap.size + 1 < w9.heap.size + 1 := (by omega)))
  (try (have : w7.heap.size + 1 < w9.heap.size + 1 + 1 := (by omega)))
  (try (have : w7.heap.size + 1 + 1 < w9.heap.size := (by omega)))
  (try (have : w7.heap.size + 1 + 1 < w9.heap.size + 1 := (by omega)))
  (try (have : w7.heap.size + 1 + 1 < w9.heap.size + 1 + 1 := (by omega)))
  (try (have : w7.heap.size + 1 + 1 + 1 < w9.heap.size := (by omega)))
  (try (have : w7.heap.size + 1 + 1 + 1 < w9.heap.size + 1 := (by omega)))
  (try (have : w7.heap.size + 1 + 1 + 1 < w9.heap.size + 1 + 1 := (by omega)))
  (try (have : w8.heap.size < w9.heap.size := (by omega)))
  (try (have : w8.heap.size < w9.heap.size + 1 := (by omega)))
  (try (have : w8.heap.size < w9.heap.size + 1 + 1 := (by omega)))
  (try (have : w8.heap.size + 1 < w9.heap.size := (by omega)))
  (try (have : w8.heap.size + 1 < w9.heap.size + 1 := (by omega)))
  (try (have : w8.heap.size + 1 < w9.heap.size + 1 + 1 := (by omega)))
  (try (have : w8.heap.size + 1 + 1 < w9.heap.size := (by omega)))
  (try (have : w8.heap.size + 1 + 1 < w9.heap.size + 1 := (by omega)))
  (try (have : w8.heap.size + 1 + 1 < w9.heap.size + 1 + 1 := (by omega)))
  (try (have : w8.heap.size + 1 + 1 + 1 < w9.heap.size := (by omega)))
  (try (have : w8.heap.size + 1 + 1 + 1 < w9.heap.size + 1 := (by omega)))
  (try (have : w8.heap.size + 1 + 1 + 1 < w9.heap.size + 1 + 1 := (by omega)))
  (try (have : b4_8 < w9.heap.size := (by omega)))
  (try (have : b4_8 < w9.heap.size + 1 := (by omega)))
  (try (have : b4_8 < w9.heap.size + 1 + 1 := (by omega)))
  simp only [List.drop_succ_cons, List.drop_zero, List.drop_nil]
  go_wp2_with (go_at_call 21; refine (HWt.out _).mono ?_; rintro e w' ⟨rfl, rfl⟩)
  first | (go_ret; exact HR.out _ (by repeat' first | with_reducible exact Below.refl _ _ | with_reducible assumption | with_reducible refine Free.Grow.alloc ?_ _ | with_reducible refine Free.Grow.setCell ?_ (by first | omega | (simp; done) | (simp; omega)) _ | with_reducible refine Free.Grow.drew ?_ | with_reducible refine Free.Grow.trans ?_ (by assumption))) | exact HR.out _ (by repeat' first | with_reducible exact Below.refl _ _ | with_reducible assumption | with_reducible refine Free.Grow.alloc ?_ _ | with_reducible refine Free.Grow.setCell ?_ (by first | omega | (simp; done) | (simp; omega)) _ | with_reducible refine Free.Grow.drew ?_ | with_reducible refine Free.Grow.trans ?_ (by assumption))

theorem walk (nm : ByteArray) (bd x y z : Int) (a : Option Addr) (l : List St) (cap : Nat) (w : World) (hnm : nm.size ≤ maxLen) (hcap : l.length ≤ cap) (hcm : cap ≤ maxLen) (hS : SlSts w a l) :
    Calls Try.prog 11 #[obV nm bd a l.length cap, v3 x y z] w fun e w' => e = .returned (.bool true) ∧ Below w.heap.size w w' := by
  simp only [maxLen] at hnm hcm
  cases hf : fewB nm.size l.length with
  | false => exact walk_no nm bd x y z a l.length cap w (fun w' _ => Brief_no nm bd a l.length cap w' (by omega) (by omega) hf)
  | true =>
    have hO : OrbIn w nm a cap l := ⟨by have := (fewB_spec hf).1; omega, hS, hcap, by omega⟩
    have HB := fun w' (h : Below w.heap.size w w') => Brief_yes nm bd a cap l w' (hO.below h) hf
    cases hbr : briefB nm.data.toList bd l with
    | false => rw [hbr] at HB; exact walk_no nm bd x y z a l.length cap w HB
    | true =>
      rw [hbr] at HB
      have h40 := (fewB_spec hf).2
      by_cases h : plE nm.data.toList bd l x y z = 0
      · exact walk_ok nm bd x y z a cap l w hO h40 h HB
      · exact walk_err nm bd x y z a cap l w hO h40 h HB

set_option maxRecDepth 100000 in
theorem lifted (os : Os) (started : os.Started) (H : Type) (enc : TypeId × Value → H) :
    ReturnsInHanded {} Try.checked os 11 .any (Rows.orbitNearestSpec.pre6 enc Try.prog Try.f11 Rows.orbitNearestRow.domain false) (Rows.orbitNearestSpec.post enc Try.prog Try.f11 false true false false) := by
  refine returnsInHanded_of_change (C := Try.checked) own started (by kernel_rfl) Try.func11
    (ChangeSpec.witness6 (enc := enc) (C := Try.checked) false ⟨#[], #[.agg #[.string ⟨#[]⟩, .int .i64 0, .slice none 0 0], .agg #[.int .i64 0, .int .i64 0, .int .i64 0]], []⟩ 8 (by kernel_rfl) (by kernel_rfl) (by kernel_rfl) (by kernel_rfl)) ?_
  intro W base args ds gs before hval0 hW hcnd _
  have hval : ∀ (j : Nat) t v, Try.f11.params[j]? = some t → args[j]? = some v → Value.okWide Try.prog W .any base t v := hval0
  have hW' := hW
  obtain ⟨p, q, hA0, hV, rfl, hfz, hnd⟩ := hW
  have hA : DataW.TrodAll enc Try.prog W 0 (fun _ => true) true Try.f11.params.toList args.toList ds p := hA0
  rw [Try.params11] at hA hval
  obtain ⟨v0, vs0, d0, ds0, p0, q0, hargs, rfl, rfl, h0, r0⟩ := trodAll_cons hA
  obtain ⟨v1, vs1, d1, ds1, p1, q1, rfl, rfl, rfl, h1, r1⟩ := trodAll_cons r0
  obtain ⟨rfl, rfl, rfl⟩ := trodAll_nil r1
  obtain rfl : args = #[v0, v1] := by cases args; simp_all
  obtain ⟨rfl, rfl⟩ := trodVars_none hV
  clear hA0 hval0
  have hlt := hW'.lt
  have g0 := h0
  have g1 := h1
  obtain ⟨nm0, bd0, a0, l0, cap0, rfl, hnm0, hbd0, hcap0, hcm0, hS0⟩ := open_orbit (hval 0 24 v0 rfl rfl) h0
  obtain ⟨px1, py1, pz1, rfl, hpx1, hpy1, hpz1⟩ := open_place (hval 1 26 v1 rfl rfl) h1
  simp only [List.append_nil] at hW' hlt ⊢
  refine (walk nm0 bd0 px1 py1 pz1 a0 l0 cap0 W hnm0 hcap0 hcm0 hS0).mono fun e W' ⟨he, hb⟩ => ?_
  subst he
  have stay : ∀ (t : TypeId) v d ps (sp : Nat → Bool), Try.prog.readableRec t = true → t < Try.prog.types.size → DataW.Trod enc Try.prog W 0 (fun _ => true) true t v d ps → (∀ x ∈ ps, x.block < W.heap.size) → (∀ x ∈ ps, sp x.block = true) → DataW.Trod enc Try.prog W' 0 sp true t v d ps :=
    fun t v d ps sp hr ht h hx hs => Go.WideElems.Trod_stays laid hr ht h (fun x hxp => hb.same (hx x hxp)) hs
  exact ⟨_, rfl, post_below (pa := p0 ++ (p1 ++ [])) (pv := []) hW' (fun _ _ _ => trodAll_mk1 (shut_bool Try.underlying4 true)) (fun sp hs => (trodAll_cons_mk (stay 24 _ _ _ sp (by kernel_rfl) (of_decide_eq_true (by kernel_rfl)) g0 (fun x hx => hlt x (by simp [hx])) (fun x hx => hs x (by simp [hx]))) (trodAll_cons_mk (stay 26 _ _ _ sp (by kernel_rfl) (of_decide_eq_true (by kernel_rfl)) g1 (fun x hx => hlt x (by simp [hx])) (fun x hx => hs x (by simp [hx]))) (trodAll_mk0)))) (fun _ _ => rfl) (by simp)
    hb (ok_one (by kernel_rfl) rfl (okWide_bool_mk Try.underlying4 true))⟩

theorem over : Rows.orbitNearestRow.holds Try.pinned (OpenSpec.ofChange Rows.orbitNearestSpec) :=
  OpenClaim.holds_of_wide 11 Try.f11 rfl rfl rfl rfl rfl rfl rfl ⟨rfl, rfl, rfl, rfl, rfl⟩ rfl rfl rfl rfl rfl (by kernel_rfl) Try.func11 (by kernel_rfl)
    (of_decide_eq_true (by kernel_rfl)) (by unfold Func.isWrapper; first | (rw [if_pos (by decide +kernel)]; kernel_rfl) | (rw [if_neg (by decide +kernel)]; exact ⟨rfl, rfl⟩))
    (fun os started H enc _ => lifted os started H enc)

/-- The statement. -/
theorem proved : Rows.OrbitNearestSaid := over
#print axioms proved
end Go.Proofs.Ytaoennekamlfeaa.OrbitNearest
