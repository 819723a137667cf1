/- OrbitProofs: CheckNearest answers as the reference does. -/
import Derived.Test.Ytaoennekamlfeaa02N
import Derived.Test.Ytaoennekamlfeaa02E
import Derived.Test.Ytaoennekamlfeaa02Sides
set_option linter.unusedSimpArgs false
set_option linter.unusedVariables false
namespace Go.Proofs.Ytaoennekamlfeaa.OrbitProofs
open Go.ChangeShapes Go.WideShapes Go.ChangeAt Go.RowKit Go.Ob Go.Proofs.Ytaoennekamlfeaa

set_option maxRecDepth 100000 in
set_option maxHeartbeats 2000000 in
theorem walk_no (nm : ByteArray) (bd x y z lo hi wi : Int) (a : Option Addr) (n cap : Nat) (w : World)
    (HB : Hid (∀ w', Below w.heap.size w w' → Calls Try.prog 16 #[obV nm bd a n cap] w' fun e w'' => e = .returned (.bool false) ∧ Below w'.heap.size w' w'')) :
    Calls Try.prog 6 #[obV nm bd a n cap, v3 x y z, cnV lo hi wi] w fun e w' => e = .returned (.bool true) ∧ Below w.heap.size w w' := by
  refine Calls.made fun R HR => ?_
  go_enter Try.func6, Try.ntmps6
  go_wp2_with (first | (go_at_call 15; refine (awake_any _).mono ?_; rintro e w1 ⟨rfl, hb1⟩; have hc1 := (Free.cells_of hb1).1; have hf1 := (Free.cells_of hb1).2; have hz1 := hb1.size; (try simp only [World.size_alloc, World.size_setCell, World.size_drew] at hz1); (try (have : w.heap.size < w1.heap.size := (by omega))); (try (have : w.heap.size < w1.heap.size + 1 := (by omega))); (try (have : w.heap.size < w1.heap.size + 1 + 1 := (by omega))); (try (have : w.heap.size + 1 < w1.heap.size := (by omega))); (try (have : w.heap.size + 1 < w1.heap.size + 1 := (by omega))); (try (have : w.heap.size + 1 < w1.heap.size + 1 + 1 := (by omega))); (try (have : w.heap.size + 1 + 1 < w1.heap.size := (by omega))); (try (have : w.heap.size + 1 + 1 < w1.heap.size + 1 := (by omega))); (try (have : w.heap.size + 1 + 1 < w1.heap.size + 1 + 1 := (by omega))); (try (have : w.heap.size + 1 + 1 + 1 < w1.heap.size := (by omega))); (try (have : w.heap.size + 1 + 1 + 1 < w1.heap.size + 1 := (by omega))); (try (have : w.heap.size + 1 + 1 + 1 < w1.heap.size + 1 + 1 := (by omega)))) | (go_at_call 16; refine (HB.out _ (by repeat' first | with_reducible exact Below.refl _ _ | with_reducible assumption | with_reducible refine Free.Grow.alloc ?_ _ | with_reducible refine Free.Grow.setCell ?_ (by first | omega | (simp; done) | (simp; omega)) _ | with_reducible refine Free.Grow.drew ?_ | with_reducible refine Free.Grow.trans ?_ (by assumption))).mono ?_; rintro e w2 ⟨rfl, hb2⟩; have hc2 := (Free.cells_of hb2).1; have hf2 := (Free.cells_of hb2).2; have hz2 := hb2.size; (try simp only [World.size_alloc, World.size_setCell, World.size_drew] at hz2); (try (have : w.heap.size < w2.heap.size := (by omega))); (try (have : w.heap.size < w2.heap.size + 1 := (by omega))); (try (have : w.heap.size < w2.heap.size + 1 + 1 := (by omega))); (try (have : w.heap.size + 1 < w2.heap.size := (by omega))); (try (have : w.heap.size + 1 < w2.heap.size + 1 := (by omega))); (try (have : w.heap.size + 1 < w2.heap.size + 1 + 1 := (by omega))); (try (have : w.heap.size + 1 + 1 < w2.heap.size := (by omega))); (try (have : w.heap.size + 1 + 1 < w2.heap.size + 1 := (by omega))); (try (have : w.heap.size + 1 + 1 < w2.heap.size + 1 + 1 := (by omega))); (try (have : w.heap.size + 1 + 1 + 1 < w2.heap.size := (by omega))); (try (have : w.heap.size + 1 + 1 + 1 < w2.heap.size + 1 := (by omega))); (try (have : w.heap.size + 1 + 1 + 1 < w2.heap.size + 1 + 1 := (by omega))); (try (have : w1.heap.size < w2.heap.size := (by omega))); (try (have : w1.heap.size < w2.heap.size + 1 := (by omega))); (try (have : w1.heap.size < w2.heap.size + 1 + 1 := (by omega))); (try (have : w1.heap.size + 1 < w2.heap.size := (by omega))); (try (have : w1.heap.size + 1 < w2.heap.size + 1 := (by omega))); (try (have : w1.heap.size + 1 < w2.heap.size + 1 + 1 := (by omega))); (try (have : w1.heap.size + 1 + 1 < w2.heap.size := (by omega))); (try (have : w1.heap.size + 1 + 1 < w2.heap.size + 1 := (by omega))); (try (have : w1.heap.size + 1 + 1 < w2.heap.size + 1 + 1 := (by omega))); (try (have : w1.heap.size + 1 + 1 + 1 < w2.heap.size := (by omega))); (try (have : w1.heap.size + 1 + 1 + 1 < w2.heap.size + 1 := (by omega))); (try (have : w1.heap.size + 1 + 1 + 1 < w2.heap.size + 1 + 1 := (by omega)))))
  first | (go_ret; exact HR.out _ (by repeat' first | with_reducible exact Below.refl _ _ | with_reducible assumption | with_reducible refine Free.Grow.alloc ?_ _ | with_reducible refine Free.Grow.setCell ?_ (by first | omega | (simp; done) | (simp; omega)) _ | with_reducible refine Free.Grow.drew ?_ | with_reducible refine Free.Grow.trans ?_ (by assumption))) | exact HR.out _ (by repeat' first | with_reducible exact Below.refl _ _ | with_reducible assumption | with_reducible refine Free.Grow.alloc ?_ _ | with_reducible refine Free.Grow.setCell ?_ (by first | omega | (simp; done) | (simp; omega)) _ | with_reducible refine Free.Grow.drew ?_ | with_reducible refine Free.Grow.trans ?_ (by assumption))

set_option maxRecDepth 100000 in
set_option maxHeartbeats 4000000 in
theorem walk_err (nm : ByteArray) (bd x y z lo hi wi : Int) (a : Option Addr) (cap : Nat) (l : List St) (w : World) (hO : OrbIn w nm a cap l) (h40 : l.length ≤ 42) (h : plE nm.data.toList bd l x y z ≠ 0)
    (HB : Hid (∀ w', Below w.heap.size w w' → Calls Try.prog 16 #[obV nm bd a l.length cap] w' fun e w'' => e = .returned (.bool true) ∧ Below w'.heap.size w' w'')) :
    Calls Try.prog 6 #[obV nm bd a l.length cap, v3 x y z, cnV lo hi wi] w fun e w' => e = .returned (.bool true) ∧ Below w.heap.size w w' := by
  have HC := Lib.hid (fun w' w0 S (h : OrbIn w' nm a cap l) (hs : Free.Safe w0 w' S) => Copy_rel (bd := bd) h (by omega) hs)
  have HN := Lib.hid (fun w' (g c : Nat) (h : OrbIn w' nm (some ⟨g, 0, none⟩) c l) => CheckNearest_any nm bd x y z lo hi wi (some ⟨g, 0, none⟩) c l w' h)
  rw [show cnOr nm.data.toList bd l x y z lo hi wi = (0, plE nm.data.toList bd l x y z) by unfold cnOr; rw [if_neg h]] at HN
  have HEr := Lib.hid (fun w' (h : OrbIn w' nm a cap l) => Err_any nm bd a cap l w' h)
  have HP := Lib.hid (fun w => IsPlace_any x y z w)
  have HO := Lib.hid hO
  by_cases hc : (orbE nm.data.toList bd l).2 = 0
  · rcases OrbitSides.placeE_or x y z with hp | hp
    · exact absurd ((firstE_two _ _).2 ⟨hc, hp⟩) h
    · have e : plE nm.data.toList bd l x y z = 2 := by unfold plE; rw [hc, hp]; rfl
      rw [e] at HN
      rw [hc] at HEr
      rw [show plB x y z = false from decide_eq_false (by rw [hp]; decide)] at HP
      clear h hp e hO hc
      refine Calls.made fun R HR => ?_
      go_enter Try.func6, Try.ntmps6
      go_wp2_with (first | (go_at_call 15; refine (awake_any _).mono ?_; rintro e w1 ⟨rfl, hb1⟩; have hc1 := (Free.cells_of hb1).1; have hf1 := (Free.cells_of hb1).2; have hz1 := hb1.size; (try simp only [World.size_alloc, World.size_setCell, World.size_drew] at hz1); (try (have : w.heap.size < w1.heap.size := (by omega))); (try (have : w.heap.size < w1.heap.size + 1 := (by omega))); (try (have : w.heap.size < w1.heap.size + 1 + 1 := (by omega))); (try (have : w.heap.size + 1 < w1.heap.size := (by omega))); (try (have : w.heap.size + 1 < w1.heap.size + 1 := (by omega))); (try (have : w.heap.size + 1 < w1.heap.size + 1 + 1 := (by omega))); (try (have : w.heap.size + 1 + 1 < w1.heap.size := (by omega))); (try (have : w.heap.size + 1 + 1 < w1.heap.size + 1 := (by omega))); (try (have : w.heap.size + 1 + 1 < w1.heap.size + 1 + 1 := (by omega))); (try (have : w.heap.size + 1 + 1 + 1 < w1.heap.size := (by omega))); (try (have : w.heap.size + 1 + 1 + 1 < w1.heap.size + 1 := (by omega))); (try (have : w.heap.size + 1 + 1 + 1 < w1.heap.size + 1 + 1 := (by omega)))) | (go_at_call 16; refine (HB.out _ (by repeat' first | with_reducible exact Below.refl _ _ | with_reducible assumption | with_reducible refine Free.Grow.alloc ?_ _ | with_reducible refine Free.Grow.setCell ?_ (by first | omega | (simp; done) | (simp; omega)) _ | with_reducible refine Free.Grow.drew ?_ | with_reducible refine Free.Grow.trans ?_ (by assumption))).mono ?_; rintro e w2 ⟨rfl, hb2⟩; have hc2 := (Free.cells_of hb2).1; have hf2 := (Free.cells_of hb2).2; have hz2 := hb2.size; (try simp only [World.size_alloc, World.size_setCell, World.size_drew] at hz2); (try (have : w.heap.size < w2.heap.size := (by omega))); (try (have : w.heap.size < w2.heap.size + 1 := (by omega))); (try (have : w.heap.size < w2.heap.size + 1 + 1 := (by omega))); (try (have : w.heap.size + 1 < w2.heap.size := (by omega))); (try (have : w.heap.size + 1 < w2.heap.size + 1 := (by omega))); (try (have : w.heap.size + 1 < w2.heap.size + 1 + 1 := (by omega))); (try (have : w.heap.size + 1 + 1 < w2.heap.size := (by omega))); (try (have : w.heap.size + 1 + 1 < w2.heap.size + 1 := (by omega))); (try (have : w.heap.size + 1 + 1 < w2.heap.size + 1 + 1 := (by omega))); (try (have : w.heap.size + 1 + 1 + 1 < w2.heap.size := (by omega))); (try (have : w.heap.size + 1 + 1 + 1 < w2.heap.size + 1 := (by omega))); (try (have : w.heap.size + 1 + 1 + 1 < w2.heap.size + 1 + 1 := (by omega))); (try (have : w1.heap.size < w2.heap.size := (by omega))); (try (have : w1.heap.size < w2.heap.size + 1 := (by omega))); (try (have : w1.heap.size < w2.heap.size + 1 + 1 := (by omega))); (try (have : w1.heap.size + 1 < w2.heap.size := (by omega))); (try (have : w1.heap.size + 1 < w2.heap.size + 1 := (by omega))); (try (have : w1.heap.size + 1 < w2.heap.size + 1 + 1 := (by omega))); (try (have : w1.heap.size + 1 + 1 < w2.heap.size := (by omega))); (try (have : w1.heap.size + 1 + 1 < w2.heap.size + 1 := (by omega))); (try (have : w1.heap.size + 1 + 1 < w2.heap.size + 1 + 1 := (by omega))); (try (have : w1.heap.size + 1 + 1 + 1 < w2.heap.size := (by omega))); (try (have : w1.heap.size + 1 + 1 + 1 < w2.heap.size + 1 := (by omega))); (try (have : w1.heap.size + 1 + 1 + 1 < w2.heap.size + 1 + 1 := (by omega)))))
      refine Free.wp_region 10 #[0, 1, 0, 0, 15, 31, 63, 63, 127, 511] (by kernel_rfl) (by kernel_rfl) ?_
      simp only [List.take_succ_cons, List.take_zero]
      iterate 1
        refine Free.E.q (by rfl) ?_
        apply Exists.intro
        refine ⟨fun u w' hc hb => ?_, ?_⟩
        go_simp
        (try go_ints); (try simp only [Ob.ite_imx, Ob.ite_imn]); first | exact rfl | (go_simp; exact rfl) | (simp only [↓IntWalk.iteOmega]; (try go_simp); exact rfl)
        simp only [Act.put, List.setIfInBounds_toArray, List.set_cons_zero, List.set_cons_succ, List.nil_append, List.cons_append]
      refine Free.E.r (F := CopyF nm bd l) (by rfl) (CopyF.mono nm bd l) (fun u w' S hc hb hs => ?_) ?_
      · go_simp
        refine Free.relUpon_enter ?_
        exact HC.out _ _ _ (HO.out.below (by repeat' first | with_reducible exact Below.refl _ _ | with_reducible assumption | with_reducible refine Free.Grow.alloc ?_ _ | with_reducible refine Free.Grow.setCell ?_ (by first | omega | (simp; done) | (simp; omega)) _ | with_reducible refine Free.Grow.drew ?_ | with_reducible refine Free.Grow.trans ?_ (by assumption))) hs
      simp only [Act.put, List.setIfInBounds_toArray, List.set_cons_zero, List.set_cons_succ, List.nil_append, List.cons_append]
      iterate 2
        refine Free.E.q (by rfl) ?_
        apply Exists.intro
        refine ⟨fun u w' hc hb => ?_, ?_⟩
        go_simp
        (try go_ints); (try simp only [Ob.ite_imx, Ob.ite_imn]); first | exact rfl | (go_simp; exact rfl) | (simp only [↓IntWalk.iteOmega]; (try go_simp); exact rfl)
        simp only [Act.put, List.setIfInBounds_toArray, List.set_cons_zero, List.set_cons_succ, List.nil_append, List.cons_append]
      refine Free.E.qf (by rfl) ?_
      apply Exists.intro
      refine ⟨fun u w' S hc hb hF => ?_, ?_⟩
      · obtain ⟨gx, capx, hux, hgx, -, hOx⟩ := hF 1 _ rfl (by rfl)
        go_simp
        try simp only [hux]
        (go_at_call 31; exact HN.out _ _ _ hOx)
      simp only [Act.put, List.setIfInBounds_toArray, List.set_cons_zero, List.set_cons_succ, List.nil_append, List.cons_append]
      iterate 5
        refine Free.E.q (by rfl) ?_
        apply Exists.intro
        refine ⟨fun u w' hc hb => ?_, ?_⟩
        go_simp
        (try go_ints); (try simp only [Ob.ite_imx, Ob.ite_imn]); first | exact rfl | (go_simp; exact rfl) | (simp only [↓IntWalk.iteOmega]; (try go_simp); exact rfl)
        simp only [Act.put, List.setIfInBounds_toArray, List.set_cons_zero, List.set_cons_succ, List.nil_append, List.cons_append]
      refine Free.E.nil (fun u w3 S hF => ?_)
      have hb3 := hF.below
      have hm3_1 := hF.facts 1 _ rfl
      clear hF
      have hc3 := (Free.cells_of hb3).1
      have hf3 := (Free.cells_of hb3).2
      have hz3 := hb3.size
      obtain ⟨g3_1, cap3_1, hu3_1, hg3_1, -, hO3_1⟩ := hm3_1
      simp only [hu3_1]
      have HO3_1 := Lib.hid hO3_1
      clear hu3_1 hO3_1
      try simp only [World.size_alloc, World.size_setCell, World.size_drew] at hz3
      (try (have : w.heap.size < w3.heap.size := (by omega)))
      (try (have : w.heap.size < w3.heap.size + 1 := (by omega)))
      (try (have : w.heap.size < w3.heap.size + 1 + 1 := (by omega)))
      (try (have : w.heap.size + 1 < w3.heap.size := (by omega)))
      (try (have : w.heap.size + 1 < w3.heap.size + 1 := (by omega)))
      (try (have : w.heap.size + 1 < w3.heap.size + 1 + 1 := (by omega)))
      (try (have : w.heap.size + 1 + 1 < w3.heap.size := (by omega)))
      (try (have : w.heap.size + 1 + 1 < w3.heap.size + 1 := (by omega)))
      (try (have : w.heap.size + 1 + 1 < w3.heap.size + 1 + 1 := (by omega)))
      (try (have : w.heap.size + 1 + 1 + 1 < w3.heap.size := (by omega)))
      (try (have : w.heap.size + 1 + 1 + 1 < w3.heap.size + 1 := (by omega)))
      (try (have : w.heap.size + 1 + 1 + 1 < w3.heap.size + 1 + 1 := (by omega)))
      (try (have : w1.heap.size < w3.heap.size := (by omega)))
      (try (have : w1.heap.size < w3.heap.size + 1 := (by omega)))
      (try (have : w1.heap.size < w3.heap.size + 1 + 1 := (by omega)))
      (try (have : w1.heap.size + 1 < w3.heap.size := (by omega)))
      (try (have : w1.heap.size + 1 < w3.heap.size + 1 := (by omega)))
      (try (have : w1.heap.size + 1 < w3.heap.size + 1 + 1 := (by omega)))
      (try (have : w1.heap.size + 1 + 1 < w3.heap.size := (by omega)))
      (try (have : w1.heap.size + 1 + 1 < w3.heap.size + 1 := (by omega)))
      (try (have : w1.heap.size + 1 + 1 < w3.heap.size + 1 + 1 := (by omega)))
      (try (have : w1.heap.size + 1 + 1 + 1 < w3.heap.size := (by omega)))
      (try (have : w1.heap.size + 1 + 1 + 1 < w3.heap.size + 1 := (by omega)))
      (try (have : w1.heap.size + 1 + 1 + 1 < w3.heap.size + 1 + 1 := (by omega)))
      (try (have : w2.heap.size < w3.heap.size := (by omega)))
      (try (have : w2.heap.size < w3.heap.size + 1 := (by omega)))
      (try (have : w2.heap.size < w3.heap.size + 1 + 1 := (by omega)))
      (try (have : w2.heap.size + 1 < w3.heap.size := (by omega)))
      (try (have : w2.heap.size + 1 < w3.heap.size + 1 := (by omega)))
      (try (have : w2.heap.size + 1 < w3.heap.size + 1 + 1 := (by omega)))
      (try (have : w2.heap.size + 1 + 1 < w3.heap.size := (by omega)))
      (try (have : w2.heap.size + 1 + 1 < w3.heap.size + 1 := (by omega)))
      (try (have : w2.heap.size + 1 + 1 < w3.heap.size + 1 + 1 := (by omega)))
      (try (have : w2.heap.size + 1 + 1 + 1 < w3.heap.size := (by omega)))
      (try (have : w2.heap.size + 1 + 1 + 1 < w3.heap.size + 1 := (by omega)))
      (try (have : w2.heap.size + 1 + 1 + 1 < w3.heap.size + 1 + 1 := (by omega)))
      simp only [List.drop_succ_cons, List.drop_zero, List.drop_nil]
      go_wp2_with fail
      refine (HEr.out _ (HO.out.below (by repeat' first | with_reducible exact Below.refl _ _ | with_reducible assumption | with_reducible refine Free.Grow.alloc ?_ _ | with_reducible refine Free.Grow.setCell ?_ (by first | omega | (simp; done) | (simp; omega)) _ | with_reducible refine Free.Grow.drew ?_ | with_reducible refine Free.Grow.trans ?_ (by assumption)))).mono ?_
      rintro e w5 ⟨rfl, hb5⟩
      have hc5 := (Free.cells_of hb5).1; have hf5 := (Free.cells_of hb5).2; have hz5 := hb5.size; (try simp only [World.size_alloc, World.size_setCell, World.size_drew] at hz5)
      (try (have : w.heap.size < w5.heap.size := (by omega))); (try (have : w.heap.size < w5.heap.size + 1 := (by omega))); (try (have : w.heap.size < w5.heap.size + 1 + 1 := (by omega))); (try (have : w.heap.size + 1 < w5.heap.size := (by omega))); (try (have : w.heap.size + 1 < w5.heap.size + 1 := (by omega))); (try (have : w.heap.size + 1 < w5.heap.size + 1 + 1 := (by omega))); (try (have : w.heap.size + 1 + 1 < w5.heap.size := (by omega))); (try (have : w.heap.size + 1 + 1 < w5.heap.size + 1 := (by omega))); (try (have : w.heap.size + 1 + 1 < w5.heap.size + 1 + 1 := (by omega))); (try (have : w.heap.size + 1 + 1 + 1 < w5.heap.size := (by omega))); (try (have : w.heap.size + 1 + 1 + 1 < w5.heap.size + 1 := (by omega))); (try (have : w.heap.size + 1 + 1 + 1 < w5.heap.size + 1 + 1 := (by omega)))
      go_wp2_with (first | (go_at_call 20; refine (HP.out _).mono ?_; rintro e w6 ⟨rfl, hb6⟩; have hc6 := (Free.cells_of hb6).1; have hf6 := (Free.cells_of hb6).2; have hz6 := hb6.size; (try simp only [World.size_alloc, World.size_setCell, World.size_drew] at hz6); (try (have : w.heap.size < w6.heap.size := (by omega))); (try (have : w.heap.size < w6.heap.size + 1 := (by omega))); (try (have : w.heap.size < w6.heap.size + 1 + 1 := (by omega))); (try (have : w.heap.size + 1 < w6.heap.size := (by omega))); (try (have : w.heap.size + 1 < w6.heap.size + 1 := (by omega))); (try (have : w.heap.size + 1 < w6.heap.size + 1 + 1 := (by omega))); (try (have : w.heap.size + 1 + 1 < w6.heap.size := (by omega))); (try (have : w.heap.size + 1 + 1 < w6.heap.size + 1 := (by omega))); (try (have : w.heap.size + 1 + 1 < w6.heap.size + 1 + 1 := (by omega))); (try (have : w.heap.size + 1 + 1 + 1 < w6.heap.size := (by omega))); (try (have : w.heap.size + 1 + 1 + 1 < w6.heap.size + 1 := (by omega))); (try (have : w.heap.size + 1 + 1 + 1 < w6.heap.size + 1 + 1 := (by omega))); (try (have : w3.heap.size < w6.heap.size := (by omega))); (try (have : w3.heap.size < w6.heap.size + 1 := (by omega))); (try (have : w3.heap.size < w6.heap.size + 1 + 1 := (by omega))); (try (have : w3.heap.size + 1 < w6.heap.size := (by omega))); (try (have : w3.heap.size + 1 < w6.heap.size + 1 := (by omega))); (try (have : w3.heap.size + 1 < w6.heap.size + 1 + 1 := (by omega))); (try (have : w3.heap.size + 1 + 1 < w6.heap.size := (by omega))); (try (have : w3.heap.size + 1 + 1 < w6.heap.size + 1 := (by omega))); (try (have : w3.heap.size + 1 + 1 < w6.heap.size + 1 + 1 := (by omega))); (try (have : w3.heap.size + 1 + 1 + 1 < w6.heap.size := (by omega))); (try (have : w3.heap.size + 1 + 1 + 1 < w6.heap.size + 1 := (by omega))); (try (have : w3.heap.size + 1 + 1 + 1 < w6.heap.size + 1 + 1 := (by omega))); (try (have : w5.heap.size < w6.heap.size := (by omega))); (try (have : w5.heap.size < w6.heap.size + 1 := (by omega))); (try (have : w5.heap.size < w6.heap.size + 1 + 1 := (by omega))); (try (have : w5.heap.size + 1 < w6.heap.size := (by omega))); (try (have : w5.heap.size + 1 < w6.heap.size + 1 := (by omega))); (try (have : w5.heap.size + 1 < w6.heap.size + 1 + 1 := (by omega))); (try (have : w5.heap.size + 1 + 1 < w6.heap.size := (by omega))); (try (have : w5.heap.size + 1 + 1 < w6.heap.size + 1 := (by omega))); (try (have : w5.heap.size + 1 + 1 < w6.heap.size + 1 + 1 := (by omega))); (try (have : w5.heap.size + 1 + 1 + 1 < w6.heap.size := (by omega))); (try (have : w5.heap.size + 1 + 1 + 1 < w6.heap.size + 1 := (by omega))); (try (have : w5.heap.size + 1 + 1 + 1 < w6.heap.size + 1 + 1 := (by omega)))))
      first | (go_ret; exact HR.out _ (by repeat' first | with_reducible exact Below.refl _ _ | with_reducible assumption | with_reducible refine Free.Grow.alloc ?_ _ | with_reducible refine Free.Grow.setCell ?_ (by first | omega | (simp; done) | (simp; omega)) _ | with_reducible refine Free.Grow.drew ?_ | with_reducible refine Free.Grow.trans ?_ (by assumption))) | exact HR.out _ (by repeat' first | with_reducible exact Below.refl _ _ | with_reducible assumption | with_reducible refine Free.Grow.alloc ?_ _ | with_reducible refine Free.Grow.setCell ?_ (by first | omega | (simp; done) | (simp; omega)) _ | with_reducible refine Free.Grow.drew ?_ | with_reducible refine Free.Grow.trans ?_ (by assumption))
  · have e : plE nm.data.toList bd l x y z = (orbE nm.data.toList bd l).2 := by unfold plE; exact first_two hc
    rw [e] at HN
    have hb0 : ((orbE nm.data.toList bd l).2 == 0) = false := by simpa using hc
    clear h e hO hc HP
    generalize (orbE nm.data.toList bd l).2 = c at *
    refine Calls.made fun R HR => ?_
    go_enter Try.func6, Try.ntmps6
    go_wp2_with (first | (go_at_call 15; refine (awake_any _).mono ?_; rintro e w1 ⟨rfl, hb1⟩; have hc1 := (Free.cells_of hb1).1; have hf1 := (Free.cells_of hb1).2; have hz1 := hb1.size; (try simp only [World.size_alloc, World.size_setCell, World.size_drew] at hz1); (try (have : w.heap.size < w1.heap.size := (by omega))); (try (have : w.heap.size < w1.heap.size + 1 := (by omega))); (try (have : w.heap.size < w1.heap.size + 1 + 1 := (by omega))); (try (have : w.heap.size + 1 < w1.heap.size := (by omega))); (try (have : w.heap.size + 1 < w1.heap.size + 1 := (by omega))); (try (have : w.heap.size + 1 < w1.heap.size + 1 + 1 := (by omega))); (try (have : w.heap.size + 1 + 1 < w1.heap.size := (by omega))); (try (have : w.heap.size + 1 + 1 < w1.heap.size + 1 := (by omega))); (try (have : w.heap.size + 1 + 1 < w1.heap.size + 1 + 1 := (by omega))); (try (have : w.heap.size + 1 + 1 + 1 < w1.heap.size := (by omega))); (try (have : w.heap.size + 1 + 1 + 1 < w1.heap.size + 1 := (by omega))); (try (have : w.heap.size + 1 + 1 + 1 < w1.heap.size + 1 + 1 := (by omega)))) | (go_at_call 16; refine (HB.out _ (by repeat' first | with_reducible exact Below.refl _ _ | with_reducible assumption | with_reducible refine Free.Grow.alloc ?_ _ | with_reducible refine Free.Grow.setCell ?_ (by first | omega | (simp; done) | (simp; omega)) _ | with_reducible refine Free.Grow.drew ?_ | with_reducible refine Free.Grow.trans ?_ (by assumption))).mono ?_; rintro e w2 ⟨rfl, hb2⟩; have hc2 := (Free.cells_of hb2).1; have hf2 := (Free.cells_of hb2).2; have hz2 := hb2.size; (try simp only [World.size_alloc, World.size_setCell, World.size_drew] at hz2); (try (have : w.heap.size < w2.heap.size := (by omega))); (try (have : w.heap.size < w2.heap.size + 1 := (by omega))); (try (have : w.heap.size < w2.heap.size + 1 + 1 := (by omega))); (try (have : w.heap.size + 1 < w2.heap.size := (by omega))); (try (have : w.heap.size + 1 < w2.heap.size + 1 := (by omega))); (try (have : w.heap.size + 1 < w2.heap.size + 1 + 1 := (by omega))); (try (have : w.heap.size + 1 + 1 < w2.heap.size := (by omega))); (try (have : w.heap.size + 1 + 1 < w2.heap.size + 1 := (by omega))); (try (have : w.heap.size + 1 + 1 < w2.heap.size + 1 + 1 := (by omega))); (try (have : w.heap.size + 1 + 1 + 1 < w2.heap.size := (by omega))); (try (have : w.heap.size + 1 + 1 + 1 < w2.heap.size + 1 := (by omega))); (try (have : w.heap.size + 1 + 1 + 1 < w2.heap.size + 1 + 1 := (by omega))); (try (have : w1.heap.size < w2.heap.size := (by omega))); (try (have : w1.heap.size < w2.heap.size + 1 := (by omega))); (try (have : w1.heap.size < w2.heap.size + 1 + 1 := (by omega))); (try (have : w1.heap.size + 1 < w2.heap.size := (by omega))); (try (have : w1.heap.size + 1 < w2.heap.size + 1 := (by omega))); (try (have : w1.heap.size + 1 < w2.heap.size + 1 + 1 := (by omega))); (try (have : w1.heap.size + 1 + 1 < w2.heap.size := (by omega))); (try (have : w1.heap.size + 1 + 1 < w2.heap.size + 1 := (by omega))); (try (have : w1.heap.size + 1 + 1 < w2.heap.size + 1 + 1 := (by omega))); (try (have : w1.heap.size + 1 + 1 + 1 < w2.heap.size := (by omega))); (try (have : w1.heap.size + 1 + 1 + 1 < w2.heap.size + 1 := (by omega))); (try (have : w1.heap.size + 1 + 1 + 1 < w2.heap.size + 1 + 1 := (by omega)))))
    refine Free.wp_region 10 #[0, 1, 0, 0, 15, 31, 63, 63, 127, 511] (by kernel_rfl) (by kernel_rfl) ?_
    simp only [List.take_succ_cons, List.take_zero]
    iterate 1
      refine Free.E.q (by rfl) ?_
      apply Exists.intro
      refine ⟨fun u w' hc hb => ?_, ?_⟩
      go_simp
      (try go_ints); (try simp only [Ob.ite_imx, Ob.ite_imn]); first | exact rfl | (go_simp; exact rfl) | (simp only [↓IntWalk.iteOmega]; (try go_simp); exact rfl)
      simp only [Act.put, List.setIfInBounds_toArray, List.set_cons_zero, List.set_cons_succ, List.nil_append, List.cons_append]
    refine Free.E.r (F := CopyF nm bd l) (by rfl) (CopyF.mono nm bd l) (fun u w' S hc hb hs => ?_) ?_
    · go_simp
      refine Free.relUpon_enter ?_
      exact HC.out _ _ _ (HO.out.below (by repeat' first | with_reducible exact Below.refl _ _ | with_reducible assumption | with_reducible refine Free.Grow.alloc ?_ _ | with_reducible refine Free.Grow.setCell ?_ (by first | omega | (simp; done) | (simp; omega)) _ | with_reducible refine Free.Grow.drew ?_ | with_reducible refine Free.Grow.trans ?_ (by assumption))) hs
    simp only [Act.put, List.setIfInBounds_toArray, List.set_cons_zero, List.set_cons_succ, List.nil_append, List.cons_append]
    iterate 2
      refine Free.E.q (by rfl) ?_
      apply Exists.intro
      refine ⟨fun u w' hc hb => ?_, ?_⟩
      go_simp
      (try go_ints); (try simp only [Ob.ite_imx, Ob.ite_imn]); first | exact rfl | (go_simp; exact rfl) | (simp only [↓IntWalk.iteOmega]; (try go_simp); exact rfl)
      simp only [Act.put, List.setIfInBounds_toArray, List.set_cons_zero, List.set_cons_succ, List.nil_append, List.cons_append]
    refine Free.E.qf (by rfl) ?_
    apply Exists.intro
    refine ⟨fun u w' S hc hb hF => ?_, ?_⟩
    · obtain ⟨gx, capx, hux, hgx, -, hOx⟩ := hF 1 _ rfl (by rfl)
      go_simp
      try simp only [hux]
      (go_at_call 31; exact HN.out _ _ _ hOx)
    simp only [Act.put, List.setIfInBounds_toArray, List.set_cons_zero, List.set_cons_succ, List.nil_append, List.cons_append]
    iterate 5
      refine Free.E.q (by rfl) ?_
      apply Exists.intro
      refine ⟨fun u w' hc hb => ?_, ?_⟩
      go_simp
      (try go_ints); (try simp only [Ob.ite_imx, Ob.ite_imn]); first | exact rfl | (go_simp; exact rfl) | (simp only [↓IntWalk.iteOmega]; (try go_simp); exact rfl)
      simp only [Act.put, List.setIfInBounds_toArray, List.set_cons_zero, List.set_cons_succ, List.nil_append, List.cons_append]
    refine Free.E.nil (fun u w3 S hF => ?_)
    have hb3 := hF.below
    have hm3_1 := hF.facts 1 _ rfl
    clear hF
    have hc3 := (Free.cells_of hb3).1
    have hf3 := (Free.cells_of hb3).2
    have hz3 := hb3.size
    obtain ⟨g3_1, cap3_1, hu3_1, hg3_1, -, hO3_1⟩ := hm3_1
    simp only [hu3_1]
    have HO3_1 := Lib.hid hO3_1
    clear hu3_1 hO3_1
    try simp only [World.size_alloc, World.size_setCell, World.size_drew] at hz3
    (try (have : w.heap.size < w3.heap.size := (by omega)))
    (try (have : w.heap.size < w3.heap.size + 1 := (by omega)))
    (try (have : w.heap.size < w3.heap.size + 1 + 1 := (by omega)))
    (try (have : w.heap.size + 1 < w3.heap.size := (by omega)))
    (try (have : w.heap.size + 1 < w3.heap.size + 1 := (by omega)))
    (try (have : w.heap.size + 1 < w3.heap.size + 1 + 1 := (by omega)))
    (try (have : w.heap.size + 1 + 1 < w3.heap.size := (by omega)))
    (try (have : w.heap.size + 1 + 1 < w3.heap.size + 1 := (by omega)))
    (try (have : w.heap.size + 1 + 1 < w3.heap.size + 1 + 1 := (by omega)))
    (try (have : w.heap.size + 1 + 1 + 1 < w3.heap.size := (by omega)))
    (try (have : w.heap.size + 1 + 1 + 1 < w3.heap.size + 1 := (by omega)))
    (try (have : w.heap.size + 1 + 1 + 1 < w3.heap.size + 1 + 1 := (by omega)))
    (try (have : w1.heap.size < w3.heap.size := (by omega)))
    (try (have : w1.heap.size < w3.heap.size + 1 := (by omega)))
    (try (have : w1.heap.size < w3.heap.size + 1 + 1 := (by omega)))
    (try (have : w1.heap.size + 1 < w3.heap.size := (by omega)))
    (try (have : w1.heap.size + 1 < w3.heap.size + 1 := (by omega)))
    (try (have : w1.heap.size + 1 < w3.heap.size + 1 + 1 := (by omega)))
    (try (have : w1.heap.size + 1 + 1 < w3.heap.size := (by omega)))
    (try (have : w1.heap.size + 1 + 1 < w3.heap.size + 1 := (by omega)))
    (try (have : w1.heap.size + 1 + 1 < w3.heap.size + 1 + 1 := (by omega)))
    (try (have : w1.heap.size + 1 + 1 + 1 < w3.heap.size := (by omega)))
    (try (have : w1.heap.size + 1 + 1 + 1 < w3.heap.size + 1 := (by omega)))
    (try (have : w1.heap.size + 1 + 1 + 1 < w3.heap.size + 1 + 1 := (by omega)))
    (try (have : w2.heap.size < w3.heap.size := (by omega)))
    (try (have : w2.heap.size < w3.heap.size + 1 := (by omega)))
    (try (have : w2.heap.size < w3.heap.size + 1 + 1 := (by omega)))
    (try (have : w2.heap.size + 1 < w3.heap.size := (by omega)))
    (try (have : w2.heap.size + 1 < w3.heap.size + 1 := (by omega)))
    (try (have : w2.heap.size + 1 < w3.heap.size + 1 + 1 := (by omega)))
    (try (have : w2.heap.size + 1 + 1 < w3.heap.size := (by omega)))
    (try (have : w2.heap.size + 1 + 1 < w3.heap.size + 1 := (by omega)))
    (try (have : w2.heap.size + 1 + 1 < w3.heap.size + 1 + 1 := (by omega)))
    (try (have : w2.heap.size + 1 + 1 + 1 < w3.heap.size := (by omega)))
    (try (have : w2.heap.size + 1 + 1 + 1 < w3.heap.size + 1 := (by omega)))
    (try (have : w2.heap.size + 1 + 1 + 1 < w3.heap.size + 1 + 1 := (by omega)))
    simp only [List.drop_succ_cons, List.drop_zero, List.drop_nil]
    go_wp2_with fail
    refine (HEr.out _ (HO.out.below (by repeat' first | with_reducible exact Below.refl _ _ | with_reducible assumption | with_reducible refine Free.Grow.alloc ?_ _ | with_reducible refine Free.Grow.setCell ?_ (by first | omega | (simp; done) | (simp; omega)) _ | with_reducible refine Free.Grow.drew ?_ | with_reducible refine Free.Grow.trans ?_ (by assumption)))).mono ?_
    rintro e w5 ⟨rfl, hb5⟩
    have hc5 := (Free.cells_of hb5).1; have hf5 := (Free.cells_of hb5).2; have hz5 := hb5.size; (try simp only [World.size_alloc, World.size_setCell, World.size_drew] at hz5)
    (try (have : w.heap.size < w5.heap.size := (by omega))); (try (have : w.heap.size < w5.heap.size + 1 := (by omega))); (try (have : w.heap.size < w5.heap.size + 1 + 1 := (by omega))); (try (have : w.heap.size + 1 < w5.heap.size := (by omega))); (try (have : w.heap.size + 1 < w5.heap.size + 1 := (by omega))); (try (have : w.heap.size + 1 < w5.heap.size + 1 + 1 := (by omega))); (try (have : w.heap.size + 1 + 1 < w5.heap.size := (by omega))); (try (have : w.heap.size + 1 + 1 < w5.heap.size + 1 := (by omega))); (try (have : w.heap.size + 1 + 1 < w5.heap.size + 1 + 1 := (by omega))); (try (have : w.heap.size + 1 + 1 + 1 < w5.heap.size := (by omega))); (try (have : w.heap.size + 1 + 1 + 1 < w5.heap.size + 1 := (by omega))); (try (have : w.heap.size + 1 + 1 + 1 < w5.heap.size + 1 + 1 := (by omega)))
    go_wp2
    first | (go_ret; exact HR.out _ (by repeat' first | with_reducible exact Below.refl _ _ | with_reducible assumption | with_reducible refine Free.Grow.alloc ?_ _ | with_reducible refine Free.Grow.setCell ?_ (by first | omega | (simp; done) | (simp; omega)) _ | with_reducible refine Free.Grow.drew ?_ | with_reducible refine Free.Grow.trans ?_ (by assumption))) | exact HR.out _ (by repeat' first | with_reducible exact Below.refl _ _ | with_reducible assumption | with_reducible refine Free.Grow.alloc ?_ _ | with_reducible refine Free.Grow.setCell ?_ (by first | omega | (simp; done) | (simp; omega)) _ | with_reducible refine Free.Grow.drew ?_ | with_reducible refine Free.Grow.trans ?_ (by assumption))

set_option maxRecDepth 100000 in
set_option maxHeartbeats 4000000 in
theorem walk_ok (nm : ByteArray) (bd x y z lo hi wi : Int) (a : Option Addr) (cap : Nat) (l : List St) (w : World) (hO : OrbIn w nm a cap l) (h40 : l.length ≤ 42) (h : plE nm.data.toList bd l x y z = 0)
    (HB : Hid (∀ w', Below w.heap.size w w' → Calls Try.prog 16 #[obV nm bd a l.length cap] w' fun e w'' => e = .returned (.bool true) ∧ Below w'.heap.size w' w'')) :
    Calls Try.prog 6 #[obV nm bd a l.length cap, v3 x y z, cnV lo hi wi] w fun e w' => e = .returned (.bool true) ∧ Below w.heap.size w w' := by
  have h2 := (firstE_two _ _).1 h
  have hR := (orbE_right h2.1).1
  obtain ⟨b, off, rfl, hbw, hmem⟩ := hO.mem hR
  have HC := Lib.hid (fun w' w0 S (h : OrbIn w' nm (some ⟨b, off, none⟩) cap l) (hs : Free.Safe w0 w' S) => Copy_rel (bd := bd) h (by omega) hs)
  have HN := Lib.hid (fun w' (g c : Nat) (h : OrbIn w' nm (some ⟨g, 0, none⟩) c l) => CheckNearest_any nm bd x y z lo hi wi (some ⟨g, 0, none⟩) c l w' h)
  rw [show cnOr nm.data.toList bd l x y z lo hi wi = cnR bd l x y z lo hi wi by unfold cnOr; rw [if_pos h]] at HN
  have HRN := Lib.hid (fun w' (hS : HasSts w' b off l) (hb : b < w'.heap.size) => rCheckNearest_any nm bd x y z lo hi wi b off cap l w' hS hb h)
  have HEr := Lib.hid (fun w' (h : OrbIn w' nm (some ⟨b, off, none⟩) cap l) => Err_any nm bd (some ⟨b, off, none⟩) cap l w' h)
  rw [h2.1] at HEr
  have HP := Lib.hid (fun w => IsPlace_any x y z w)
  rw [show plB x y z = true from decide_eq_true h2.2] at HP
  have HO := Lib.hid hO
  have HM := Lib.hid hmem
  clear h hO hmem h2 hR
  generalize cnR bd l x y z lo hi wi = c at *
  obtain ⟨c1, c2⟩ := c
  refine Calls.made fun R HR => ?_
  go_enter Try.func6, Try.ntmps6
  go_wp2_with (first | (go_at_call 15; refine (awake_any _).mono ?_; rintro e w1 ⟨rfl, hb1⟩; have hc1 := (Free.cells_of hb1).1; have hf1 := (Free.cells_of hb1).2; have hz1 := hb1.size; (try simp only [World.size_alloc, World.size_setCell, World.size_drew] at hz1); (try (have : w.heap.size < w1.heap.size := (by omega))); (try (have : w.heap.size < w1.heap.size + 1 := (by omega))); (try (have : w.heap.size < w1.heap.size + 1 + 1 := (by omega))); (try (have : w.heap.size + 1 < w1.heap.size := (by omega))); (try (have : w.heap.size + 1 < w1.heap.size + 1 := (by omega))); (try (have : w.heap.size + 1 < w1.heap.size + 1 + 1 := (by omega))); (try (have : w.heap.size + 1 + 1 < w1.heap.size := (by omega))); (try (have : w.heap.size + 1 + 1 < w1.heap.size + 1 := (by omega))); (try (have : w.heap.size + 1 + 1 < w1.heap.size + 1 + 1 := (by omega))); (try (have : w.heap.size + 1 + 1 + 1 < w1.heap.size := (by omega))); (try (have : w.heap.size + 1 + 1 + 1 < w1.heap.size + 1 := (by omega))); (try (have : w.heap.size + 1 + 1 + 1 < w1.heap.size + 1 + 1 := (by omega)))) | (go_at_call 16; refine (HB.out _ (by repeat' first | with_reducible exact Below.refl _ _ | with_reducible assumption | with_reducible refine Free.Grow.alloc ?_ _ | with_reducible refine Free.Grow.setCell ?_ (by first | omega | (simp; done) | (simp; omega)) _ | with_reducible refine Free.Grow.drew ?_ | with_reducible refine Free.Grow.trans ?_ (by assumption))).mono ?_; rintro e w2 ⟨rfl, hb2⟩; have hc2 := (Free.cells_of hb2).1; have hf2 := (Free.cells_of hb2).2; have hz2 := hb2.size; (try simp only [World.size_alloc, World.size_setCell, World.size_drew] at hz2); (try (have : w.heap.size < w2.heap.size := (by omega))); (try (have : w.heap.size < w2.heap.size + 1 := (by omega))); (try (have : w.heap.size < w2.heap.size + 1 + 1 := (by omega))); (try (have : w.heap.size + 1 < w2.heap.size := (by omega))); (try (have : w.heap.size + 1 < w2.heap.size + 1 := (by omega))); (try (have : w.heap.size + 1 < w2.heap.size + 1 + 1 := (by omega))); (try (have : w.heap.size + 1 + 1 < w2.heap.size := (by omega))); (try (have : w.heap.size + 1 + 1 < w2.heap.size + 1 := (by omega))); (try (have : w.heap.size + 1 + 1 < w2.heap.size + 1 + 1 := (by omega))); (try (have : w.heap.size + 1 + 1 + 1 < w2.heap.size := (by omega))); (try (have : w.heap.size + 1 + 1 + 1 < w2.heap.size + 1 := (by omega))); (try (have : w.heap.size + 1 + 1 + 1 < w2.heap.size + 1 + 1 := (by omega))); (try (have : w1.heap.size < w2.heap.size := (by omega))); (try (have : w1.heap.size < w2.heap.size + 1 := (by omega))); (try (have : w1.heap.size < w2.heap.size + 1 + 1 := (by omega))); (try (have : w1.heap.size + 1 < w2.heap.size := (by omega))); (try (have : w1.heap.size + 1 < w2.heap.size + 1 := (by omega))); (try (have : w1.heap.size + 1 < w2.heap.size + 1 + 1 := (by omega))); (try (have : w1.heap.size + 1 + 1 < w2.heap.size := (by omega))); (try (have : w1.heap.size + 1 + 1 < w2.heap.size + 1 := (by omega))); (try (have : w1.heap.size + 1 + 1 < w2.heap.size + 1 + 1 := (by omega))); (try (have : w1.heap.size + 1 + 1 + 1 < w2.heap.size := (by omega))); (try (have : w1.heap.size + 1 + 1 + 1 < w2.heap.size + 1 := (by omega))); (try (have : w1.heap.size + 1 + 1 + 1 < w2.heap.size + 1 + 1 := (by omega)))))
  refine Free.wp_region 10 #[0, 1, 0, 0, 15, 31, 63, 63, 127, 511] (by kernel_rfl) (by kernel_rfl) ?_
  simp only [List.take_succ_cons, List.take_zero]
  iterate 1
    refine Free.E.q (by rfl) ?_
    apply Exists.intro
    refine ⟨fun u w' hc hb => ?_, ?_⟩
    go_simp
    (try go_ints); (try simp only [Ob.ite_imx, Ob.ite_imn]); first | exact rfl | (go_simp; exact rfl) | (simp only [↓IntWalk.iteOmega]; (try go_simp); exact rfl)
    simp only [Act.put, List.setIfInBounds_toArray, List.set_cons_zero, List.set_cons_succ, List.nil_append, List.cons_append]
  refine Free.E.r (F := CopyF nm bd l) (by rfl) (CopyF.mono nm bd l) (fun u w' S hc hb hs => ?_) ?_
  · go_simp
    refine Free.relUpon_enter ?_
    exact HC.out _ _ _ (HO.out.below (by repeat' first | with_reducible exact Below.refl _ _ | with_reducible assumption | with_reducible refine Free.Grow.alloc ?_ _ | with_reducible refine Free.Grow.setCell ?_ (by first | omega | (simp; done) | (simp; omega)) _ | with_reducible refine Free.Grow.drew ?_ | with_reducible refine Free.Grow.trans ?_ (by assumption))) hs
  simp only [Act.put, List.setIfInBounds_toArray, List.set_cons_zero, List.set_cons_succ, List.nil_append, List.cons_append]
  iterate 2
    refine Free.E.q (by rfl) ?_
    apply Exists.intro
    refine ⟨fun u w' hc hb => ?_, ?_⟩
    go_simp
    (try go_ints); (try simp only [Ob.ite_imx, Ob.ite_imn]); first | exact rfl | (go_simp; exact rfl) | (simp only [↓IntWalk.iteOmega]; (try go_simp); exact rfl)
    simp only [Act.put, List.setIfInBounds_toArray, List.set_cons_zero, List.set_cons_succ, List.nil_append, List.cons_append]
  refine Free.E.qf (by rfl) ?_
  apply Exists.intro
  refine ⟨fun u w' S hc hb hF => ?_, ?_⟩
  · obtain ⟨gx, capx, hux, hgx, -, hOx⟩ := hF 1 _ rfl (by rfl)
    go_simp
    try simp only [hux]
    (go_at_call 31; exact HN.out _ _ _ hOx)
  simp only [Act.put, List.setIfInBounds_toArray, List.set_cons_zero, List.set_cons_succ, List.nil_append, List.cons_append]
  iterate 5
    refine Free.E.q (by rfl) ?_
    apply Exists.intro
    refine ⟨fun u w' hc hb => ?_, ?_⟩
    go_simp
    (try go_ints); (try simp only [Ob.ite_imx, Ob.ite_imn]); first | exact rfl | (go_simp; exact rfl) | (simp only [↓IntWalk.iteOmega]; (try go_simp); exact rfl)
    simp only [Act.put, List.setIfInBounds_toArray, List.set_cons_zero, List.set_cons_succ, List.nil_append, List.cons_append]
  refine Free.E.nil (fun u w3 S hF => ?_)
  have hb3 := hF.below
  have hm3_1 := hF.facts 1 _ rfl
  clear hF
  have hc3 := (Free.cells_of hb3).1
  have hf3 := (Free.cells_of hb3).2
  have hz3 := hb3.size
  obtain ⟨g3_1, cap3_1, hu3_1, hg3_1, -, hO3_1⟩ := hm3_1
  simp only [hu3_1]
  have HO3_1 := Lib.hid hO3_1
  clear hu3_1 hO3_1
  try simp only [World.size_alloc, World.size_setCell, World.size_drew] at hz3
  (try (have : w.heap.size < w3.heap.size := (by omega)))
  (try (have : w.heap.size < w3.heap.size + 1 := (by omega)))
  (try (have : w.heap.size < w3.heap.size + 1 + 1 := (by omega)))
  (try (have : w.heap.size + 1 < w3.heap.size := (by omega)))
  (try (have : w.heap.size + 1 < w3.heap.size + 1 := (by omega)))
  (try (have : w.heap.size + 1 < w3.heap.size + 1 + 1 := (by omega)))
  (try (have : w.heap.size + 1 + 1 < w3.heap.size := (by omega)))
  (try (have : w.heap.size + 1 + 1 < w3.heap.size + 1 := (by omega)))
  (try (have : w.heap.size + 1 + 1 < w3.heap.size + 1 + 1 := (by omega)))
  (try (have : w.heap.size + 1 + 1 + 1 < w3.heap.size := (by omega)))
  (try (have : w.heap.size + 1 + 1 + 1 < w3.heap.size + 1 := (by omega)))
  (try (have : w.heap.size + 1 + 1 + 1 < w3.heap.size + 1 + 1 := (by omega)))
  (try (have : w1.heap.size < w3.heap.size := (by omega)))
  (try (have : w1.heap.size < w3.heap.size + 1 := (by omega)))
  (try (have : w1.heap.size < w3.heap.size + 1 + 1 := (by omega)))
  (try (have : w1.heap.size + 1 < w3.heap.size := (by omega)))
  (try (have : w1.heap.size + 1 < w3.heap.size + 1 := (by omega)))
  (try (have : w1.heap.size + 1 < w3.heap.size + 1 + 1 := (by omega)))
  (try (have : w1.heap.size + 1 + 1 < w3.heap.size := (by omega)))
  (try (have : w1.heap.size + 1 + 1 < w3.heap.size + 1 := (by omega)))
  (try (have : w1.heap.size + 1 + 1 < w3.heap.size + 1 + 1 := (by omega)))
  (try (have : w1.heap.size + 1 + 1 + 1 < w3.heap.size := (by omega)))
  (try (have : w1.heap.size + 1 + 1 + 1 < w3.heap.size + 1 := (by omega)))
  (try (have : w1.heap.size + 1 + 1 + 1 < w3.heap.size + 1 + 1 := (by omega)))
  (try (have : w2.heap.size < w3.heap.size := (by omega)))
  (try (have : w2.heap.size < w3.heap.size + 1 := (by omega)))
  (try (have : w2.heap.size < w3.heap.size + 1 + 1 := (by omega)))
  (try (have : w2.heap.size + 1 < w3.heap.size := (by omega)))
  (try (have : w2.heap.size + 1 < w3.heap.size + 1 := (by omega)))
  (try (have : w2.heap.size + 1 < w3.heap.size + 1 + 1 := (by omega)))
  (try (have : w2.heap.size + 1 + 1 < w3.heap.size := (by omega)))
  (try (have : w2.heap.size + 1 + 1 < w3.heap.size + 1 := (by omega)))
  (try (have : w2.heap.size + 1 + 1 < w3.heap.size + 1 + 1 := (by omega)))
  (try (have : w2.heap.size + 1 + 1 + 1 < w3.heap.size := (by omega)))
  (try (have : w2.heap.size + 1 + 1 + 1 < w3.heap.size + 1 := (by omega)))
  (try (have : w2.heap.size + 1 + 1 + 1 < w3.heap.size + 1 + 1 := (by omega)))
  simp only [List.drop_succ_cons, List.drop_zero, List.drop_nil]
  go_wp2_with fail
  refine (HEr.out _ (HO.out.below (by repeat' first | with_reducible exact Below.refl _ _ | with_reducible assumption | with_reducible refine Free.Grow.alloc ?_ _ | with_reducible refine Free.Grow.setCell ?_ (by first | omega | (simp; done) | (simp; omega)) _ | with_reducible refine Free.Grow.drew ?_ | with_reducible refine Free.Grow.trans ?_ (by assumption)))).mono ?_
  rintro e w5 ⟨rfl, hb5⟩
  have hc5 := (Free.cells_of hb5).1; have hf5 := (Free.cells_of hb5).2; have hz5 := hb5.size; (try simp only [World.size_alloc, World.size_setCell, World.size_drew] at hz5)
  (try (have : w.heap.size < w5.heap.size := (by omega))); (try (have : w.heap.size < w5.heap.size + 1 := (by omega))); (try (have : w.heap.size < w5.heap.size + 1 + 1 := (by omega))); (try (have : w.heap.size + 1 < w5.heap.size := (by omega))); (try (have : w.heap.size + 1 < w5.heap.size + 1 := (by omega))); (try (have : w.heap.size + 1 < w5.heap.size + 1 + 1 := (by omega))); (try (have : w.heap.size + 1 + 1 < w5.heap.size := (by omega))); (try (have : w.heap.size + 1 + 1 < w5.heap.size + 1 := (by omega))); (try (have : w.heap.size + 1 + 1 < w5.heap.size + 1 + 1 := (by omega))); (try (have : w.heap.size + 1 + 1 + 1 < w5.heap.size := (by omega))); (try (have : w.heap.size + 1 + 1 + 1 < w5.heap.size + 1 := (by omega))); (try (have : w.heap.size + 1 + 1 + 1 < w5.heap.size + 1 + 1 := (by omega)))
  go_wp2_with (first | (go_at_call 20; refine (HP.out _).mono ?_; rintro e w6 ⟨rfl, hb6⟩; have hc6 := (Free.cells_of hb6).1; have hf6 := (Free.cells_of hb6).2; have hz6 := hb6.size; (try simp only [World.size_alloc, World.size_setCell, World.size_drew] at hz6); (try (have : w.heap.size < w6.heap.size := (by omega))); (try (have : w.heap.size < w6.heap.size + 1 := (by omega))); (try (have : w.heap.size < w6.heap.size + 1 + 1 := (by omega))); (try (have : w.heap.size + 1 < w6.heap.size := (by omega))); (try (have : w.heap.size + 1 < w6.heap.size + 1 := (by omega))); (try (have : w.heap.size + 1 < w6.heap.size + 1 + 1 := (by omega))); (try (have : w.heap.size + 1 + 1 < w6.heap.size := (by omega))); (try (have : w.heap.size + 1 + 1 < w6.heap.size + 1 := (by omega))); (try (have : w.heap.size + 1 + 1 < w6.heap.size + 1 + 1 := (by omega))); (try (have : w.heap.size + 1 + 1 + 1 < w6.heap.size := (by omega))); (try (have : w.heap.size + 1 + 1 + 1 < w6.heap.size + 1 := (by omega))); (try (have : w.heap.size + 1 + 1 + 1 < w6.heap.size + 1 + 1 := (by omega))); (try (have : w3.heap.size < w6.heap.size := (by omega))); (try (have : w3.heap.size < w6.heap.size + 1 := (by omega))); (try (have : w3.heap.size < w6.heap.size + 1 + 1 := (by omega))); (try (have : w3.heap.size + 1 < w6.heap.size := (by omega))); (try (have : w3.heap.size + 1 < w6.heap.size + 1 := (by omega))); (try (have : w3.heap.size + 1 < w6.heap.size + 1 + 1 := (by omega))); (try (have : w3.heap.size + 1 + 1 < w6.heap.size := (by omega))); (try (have : w3.heap.size + 1 + 1 < w6.heap.size + 1 := (by omega))); (try (have : w3.heap.size + 1 + 1 < w6.heap.size + 1 + 1 := (by omega))); (try (have : w3.heap.size + 1 + 1 + 1 < w6.heap.size := (by omega))); (try (have : w3.heap.size + 1 + 1 + 1 < w6.heap.size + 1 := (by omega))); (try (have : w3.heap.size + 1 + 1 + 1 < w6.heap.size + 1 + 1 := (by omega))); (try (have : w5.heap.size < w6.heap.size := (by omega))); (try (have : w5.heap.size < w6.heap.size + 1 := (by omega))); (try (have : w5.heap.size < w6.heap.size + 1 + 1 := (by omega))); (try (have : w5.heap.size + 1 < w6.heap.size := (by omega))); (try (have : w5.heap.size + 1 < w6.heap.size + 1 := (by omega))); (try (have : w5.heap.size + 1 < w6.heap.size + 1 + 1 := (by omega))); (try (have : w5.heap.size + 1 + 1 < w6.heap.size := (by omega))); (try (have : w5.heap.size + 1 + 1 < w6.heap.size + 1 := (by omega))); (try (have : w5.heap.size + 1 + 1 < w6.heap.size + 1 + 1 := (by omega))); (try (have : w5.heap.size + 1 + 1 + 1 < w6.heap.size := (by omega))); (try (have : w5.heap.size + 1 + 1 + 1 < w6.heap.size + 1 := (by omega))); (try (have : w5.heap.size + 1 + 1 + 1 < w6.heap.size + 1 + 1 := (by omega)))) | (go_at_call 32; refine (HRN.out _ (HM.out.below (B := w.heap.size) (by repeat' first | with_reducible exact Below.refl _ _ | with_reducible assumption | with_reducible refine Free.Grow.alloc ?_ _ | with_reducible refine Free.Grow.setCell ?_ (by first | omega | (simp; done) | (simp; omega)) _ | with_reducible refine Free.Grow.drew ?_ | with_reducible refine Free.Grow.trans ?_ (by assumption)) hbw) (by first | omega | (simp; done) | (simp; omega))).mono ?_; rintro e w7 ⟨rfl, hb7⟩; have hc7 := (Free.cells_of hb7).1; have hf7 := (Free.cells_of hb7).2; have hz7 := hb7.size; (try simp only [World.size_alloc, World.size_setCell, World.size_drew] at hz7); (try (have : w.heap.size < w7.heap.size := (by omega))); (try (have : w.heap.size < w7.heap.size + 1 := (by omega))); (try (have : w.heap.size < w7.heap.size + 1 + 1 := (by omega))); (try (have : w.heap.size + 1 < w7.heap.size := (by omega))); (try (have : w.heap.size + 1 < w7.heap.size + 1 := (by omega))); (try (have : w.heap.size + 1 < w7.heap.size + 1 + 1 := (by omega))); (try (have : w.heap.size + 1 + 1 < w7.heap.size := (by omega))); (try (have : w.heap.size + 1 + 1 < w7.heap.size + 1 := (by omega))); (try (have : w.heap.size + 1 + 1 < w7.heap.size + 1 + 1 := (by omega))); (try (have : w.heap.size + 1 + 1 + 1 < w7.heap.size := (by omega))); (try (have : w.heap.size + 1 + 1 + 1 < w7.heap.size + 1 := (by omega))); (try (have : w.heap.size + 1 + 1 + 1 < w7.heap.size + 1 + 1 := (by omega))); (try (have : w3.heap.size < w7.heap.size := (by omega))); (try (have : w3.heap.size < w7.heap.size + 1 := (by omega))); (try (have : w3.heap.size < w7.heap.size + 1 + 1 := (by omega))); (try (have : w3.heap.size + 1 < w7.heap.size := (by omega))); (try (have : w3.heap.size + 1 < w7.heap.size + 1 := (by omega))); (try (have : w3.heap.size + 1 < w7.heap.size + 1 + 1 := (by omega))); (try (have : w3.heap.size + 1 + 1 < w7.heap.size := (by omega))); (try (have : w3.heap.size + 1 + 1 < w7.heap.size + 1 := (by omega))); (try (have : w3.heap.size + 1 + 1 < w7.heap.size + 1 + 1 := (by omega))); (try (have : w3.heap.size + 1 + 1 + 1 < w7.heap.size := (by omega))); (try (have : w3.heap.size + 1 + 1 + 1 < w7.heap.size + 1 := (by omega))); (try (have : w3.heap.size + 1 + 1 + 1 < w7.heap.size + 1 + 1 := (by omega))); (try (have : w5.heap.size < w7.heap.size := (by omega))); (try (have : w5.heap.size < w7.heap.size + 1 := (by omega))); (try (have : w5.heap.size < w7.heap.size + 1 + 1 := (by omega))); (try (have : w5.heap.size + 1 < w7.heap.size := (by omega))); (try (have : w5.heap.size + 1 < w7.heap.size + 1 := (by omega))); (try (have : w5.heap.size + 1 < w7.heap.size + 1 + 1 := (by omega))); (try (have : w5.heap.size + 1 + 1 < w7.heap.size := (by omega))); (try (have : w5.heap.size + 1 + 1 < w7.heap.size + 1 := (by omega))); (try (have : w5.heap.size + 1 + 1 < w7.heap.size + 1 + 1 := (by omega))); (try (have : w5.heap.size + 1 + 1 + 1 < w7.heap.size := (by omega))); (try (have : w5.heap.size + 1 + 1 + 1 < w7.heap.size + 1 := (by omega))); (try (have : w5.heap.size + 1 + 1 + 1 < w7.heap.size + 1 + 1 := (by omega))); (try (have : w6.heap.size < w7.heap.size := (by omega))); (try (have : w6.heap.size < w7.heap.size + 1 := (by omega))); (try (have : w6.heap.size < w7.heap.size + 1 + 1 := (by omega))); (try (have : w6.heap.size + 1 < w7.heap.size := (by omega))); (try (have : w6.heap.size + 1 < w7.heap.size + 1 := (by omega))); (try (have : w6.heap.size + 1 < w7.heap.size + 1 + 1 := (by omega))); (try (have : w6.heap.size + 1 + 1 < w7.heap.size := (by omega))); (try (have : w6.heap.size + 1 + 1 < w7.heap.size + 1 := (by omega))); (try (have : w6.heap.size + 1 + 1 < w7.heap.size + 1 + 1 := (by omega))); (try (have : w6.heap.size + 1 + 1 + 1 < w7.heap.size := (by omega))); (try (have : w6.heap.size + 1 + 1 + 1 < w7.heap.size + 1 := (by omega))); (try (have : w6.heap.size + 1 + 1 + 1 < w7.heap.size + 1 + 1 := (by omega)))))
  first | (go_ret; exact HR.out _ (by repeat' first | with_reducible exact Below.refl _ _ | with_reducible assumption | with_reducible refine Free.Grow.alloc ?_ _ | with_reducible refine Free.Grow.setCell ?_ (by first | omega | (simp; done) | (simp; omega)) _ | with_reducible refine Free.Grow.drew ?_ | with_reducible refine Free.Grow.trans ?_ (by assumption))) | exact HR.out _ (by repeat' first | with_reducible exact Below.refl _ _ | with_reducible assumption | with_reducible refine Free.Grow.alloc ?_ _ | with_reducible refine Free.Grow.setCell ?_ (by first | omega | (simp; done) | (simp; omega)) _ | with_reducible refine Free.Grow.drew ?_ | with_reducible refine Free.Grow.trans ?_ (by assumption))

theorem walk (nm : ByteArray) (bd x y z lo hi wi : Int) (a : Option Addr) (l : List St) (cap : Nat) (w : World) (hnm : nm.size ≤ maxLen) (hcap : l.length ≤ cap) (hcm : cap ≤ maxLen) (hS : SlSts w a l) :
    Calls Try.prog 6 #[obV nm bd a l.length cap, v3 x y z, cnV lo hi wi] w fun e w' => e = .returned (.bool true) ∧ Below w.heap.size w w' := by
  simp only [maxLen] at hnm hcm
  cases hf : fewB nm.size l.length with
  | false => exact walk_no nm bd x y z lo hi wi a l.length cap w (fun w' _ => Brief_no nm bd a l.length cap w' (by omega) (by omega) hf)
  | true =>
    have hO : OrbIn w nm a cap l := ⟨by have := (fewB_spec hf).1; omega, hS, hcap, by omega⟩
    have HB := fun w' (h : Below w.heap.size w w') => Brief_yes nm bd a cap l w' (hO.below h) hf
    cases hbr : briefB nm.data.toList bd l with
    | false => rw [hbr] at HB; exact walk_no nm bd x y z lo hi wi a l.length cap w HB
    | true =>
      rw [hbr] at HB
      have h40 := (fewB_spec hf).2
      by_cases h : plE nm.data.toList bd l x y z = 0
      · exact walk_ok nm bd x y z lo hi wi a cap l w hO h40 h HB
      · exact walk_err nm bd x y z lo hi wi a cap l w hO h40 h HB

set_option maxRecDepth 100000 in
theorem lifted (os : Os) (started : os.Started) (H : Type) (enc : TypeId × Value → H) :
    ReturnsInHanded {} Try.checked os 6 .any (Rows.orbitProofsSpec.pre6 enc Try.prog Try.f6 Rows.orbitProofsRow.domain false) (Rows.orbitProofsSpec.post enc Try.prog Try.f6 false true false false) := by
  refine returnsInHanded_of_change (C := Try.checked) own started (by kernel_rfl) Try.func6
    (ChangeSpec.witness6 (enc := enc) (C := Try.checked) false ⟨#[], #[.agg #[.string ⟨#[]⟩, .int .i64 0, .slice none 0 0], .agg #[.int .i64 0, .int .i64 0, .int .i64 0], .agg #[.int .i64 0, .int .i64 0, .int .i64 0]], []⟩ 8 (by kernel_rfl) (by kernel_rfl) (by kernel_rfl) (by kernel_rfl)) ?_
  intro W base args ds gs before hval0 hW hcnd _
  have hval : ∀ (j : Nat) t v, Try.f6.params[j]? = some t → args[j]? = some v → Value.okWide Try.prog W .any base t v := hval0
  have hW' := hW
  obtain ⟨p, q, hA0, hV, rfl, hfz, hnd⟩ := hW
  have hA : DataW.TrodAll enc Try.prog W 0 (fun _ => true) true Try.f6.params.toList args.toList ds p := hA0
  rw [Try.params6] at hA hval
  obtain ⟨v0, vs0, d0, ds0, p0, q0, hargs, rfl, rfl, h0, r0⟩ := trodAll_cons hA
  obtain ⟨v1, vs1, d1, ds1, p1, q1, rfl, rfl, rfl, h1, r1⟩ := trodAll_cons r0
  obtain ⟨v2, vs2, d2, ds2, p2, q2, rfl, rfl, rfl, h2, r2⟩ := trodAll_cons r1
  obtain ⟨rfl, rfl, rfl⟩ := trodAll_nil r2
  obtain rfl : args = #[v0, v1, v2] := by cases args; simp_all
  obtain ⟨rfl, rfl⟩ := trodVars_none hV
  clear hA0 hval0
  have hlt := hW'.lt
  have g0 := h0
  have g1 := h1
  have g2 := h2
  obtain ⟨nm0, bd0, a0, l0, cap0, rfl, hnm0, hbd0, hcap0, hcm0, hS0⟩ := open_orbit (hval 0 24 v0 rfl rfl) h0
  obtain ⟨px1, py1, pz1, rfl, hpx1, hpy1, hpz1⟩ := open_place (hval 1 26 v1 rfl rfl) h1
  obtain ⟨lo2, hi2, wi2, rfl, hlo2, hhi2, hwi2⟩ := open_near (hval 2 58 v2 rfl rfl) h2
  simp only [List.append_nil] at hW' hlt ⊢
  refine (walk nm0 bd0 px1 py1 pz1 lo2 hi2 wi2 a0 l0 cap0 W hnm0 hcap0 hcm0 hS0).mono fun e W' ⟨he, hb⟩ => ?_
  subst he
  have stay : ∀ (t : TypeId) v d ps (sp : Nat → Bool), Try.prog.readableRec t = true → t < Try.prog.types.size → DataW.Trod enc Try.prog W 0 (fun _ => true) true t v d ps → (∀ x ∈ ps, x.block < W.heap.size) → (∀ x ∈ ps, sp x.block = true) → DataW.Trod enc Try.prog W' 0 sp true t v d ps :=
    fun t v d ps sp hr ht h hx hs => Go.WideElems.Trod_stays laid hr ht h (fun x hxp => hb.same (hx x hxp)) hs
  exact ⟨_, rfl, post_below (pa := p0 ++ (p1 ++ (p2 ++ []))) (pv := []) hW' (fun _ _ _ => trodAll_mk1 (shut_bool Try.underlying4 true)) (fun sp hs => (trodAll_cons_mk (stay 24 _ _ _ sp (by kernel_rfl) (of_decide_eq_true (by kernel_rfl)) g0 (fun x hx => hlt x (by simp [hx])) (fun x hx => hs x (by simp [hx]))) (trodAll_cons_mk (stay 26 _ _ _ sp (by kernel_rfl) (of_decide_eq_true (by kernel_rfl)) g1 (fun x hx => hlt x (by simp [hx])) (fun x hx => hs x (by simp [hx]))) (trodAll_cons_mk (stay 58 _ _ _ sp (by kernel_rfl) (of_decide_eq_true (by kernel_rfl)) g2 (fun x hx => hlt x (by simp [hx])) (fun x hx => hs x (by simp [hx]))) (trodAll_mk0))))) (fun _ _ => rfl) (by simp)
    hb (ok_one (by kernel_rfl) rfl (okWide_bool_mk Try.underlying4 true))⟩

theorem over : Rows.orbitProofsRow.holds Try.pinned (OpenSpec.ofChange Rows.orbitProofsSpec) :=
  OpenClaim.holds_of_wide 6 Try.f6 rfl rfl rfl rfl rfl rfl rfl ⟨rfl, rfl, rfl, rfl, rfl⟩ rfl rfl rfl rfl rfl (by kernel_rfl) Try.func6 (by kernel_rfl)
    (of_decide_eq_true (by kernel_rfl)) (by unfold Func.isWrapper; first | (rw [if_pos (by decide +kernel)]; kernel_rfl) | (rw [if_neg (by decide +kernel)]; exact ⟨rfl, rfl⟩))
    (fun os started H enc _ => lifted os started H enc)

/-- The statement. -/
theorem proved : Rows.OrbitProofsSaid := over
#print axioms proved
end Go.Proofs.Ytaoennekamlfeaa.OrbitProofs
