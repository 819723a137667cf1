/- OrbitDistances: SquareAt and DistanceAt return what the reference does, or the errors; the distance to the nominal place lies between. -/
import Derived.Test.Ytaoennekamlfeaa02I
import Derived.Test.Ytaoennekamlfeaa02Sides
import Derived.Test.Ytaoennekamlfeaa02Places
set_option linter.unusedSimpArgs false
set_option linter.unusedVariables false
namespace Go.Proofs.Ytaoennekamlfeaa.OrbitDistances
open Go.ChangeShapes Go.WideShapes Go.ChangeAt Go.RowKit Go.Ob Go.Proofs.Ytaoennekamlfeaa

theorem near_le {lo hi x p : Int} (h0 : lo ≤ p) (h1 : p ≤ hi) : near lo hi x * near lo hi x ≤ (p - x) * (p - x) ∧ (p - x) * (p - x) ≤ far lo hi x * far lo hi x := by
  rw [near_sq (by omega), far_sq (by omega)]
  unfold rLo rHi
  constructor
  · split
    · by_cases h : 0 ≤ p - x
      · exact Int.mul_nonneg h h
      · have := Int.mul_nonneg (show 0 ≤ x - p by omega) (show 0 ≤ x - p by omega); rw [sq_sym x p] at this; exact this
    · rename_i hw
      have hm := imn_spec ((x - lo) * (x - lo)) ((x - hi) * (x - hi))
      by_cases h : x < lo
      · have := sq_mono (a := lo - x) (b := p - x) (by omega) (by omega); rw [sq_sym lo x] at this; omega
      · have := sq_mono (a := x - hi) (b := x - p) (by omega) (by omega); rw [sq_sym x p] at this; omega
  · have hm := imx_spec ((x - lo) * (x - lo)) ((x - hi) * (x - hi))
    by_cases h : p ≤ x
    · have := sq_mono (a := x - p) (b := x - lo) (by omega) (by omega); rw [sq_sym x p] at this; omega
    · have := sq_mono (a := p - x) (b := hi - x) (by omega) (by omega); rw [sq_sym hi x] at this; omega

theorem sums_in {q : Bx} {p : P3} {x y z : Int} (h0 : q.l0 ≤ p.x ∧ p.x ≤ q.h0) (h1 : q.l1 ≤ p.y ∧ p.y ≤ q.h1) (h2 : q.l2 ≤ p.z ∧ p.z ≤ q.h2) : sqLo q x y z ≤ dsq p x y z ∧ dsq p x y z ≤ sqHi q x y z := by
  have a := near_le (x := x) h0.1 h0.2
  have b := near_le (x := y) h1.1 h1.2
  have c := near_le (x := z) h2.1 h2.2
  unfold sqLo sqHi dsq
  omega

set_option maxRecDepth 100000 in
set_option maxHeartbeats 1000000 in
theorem placeErr_any (nm : ByteArray) (bd t x y z : Int) (a : Option Addr) (cap : Nat) (l : List St) (w : World) (hO : OrbIn w nm a cap l) :
    Calls Try.prog 39 #[obV nm bd a l.length cap, .int .i64 t, v3 x y z] w fun e w' => e = .returned (.int .i64 (sqE nm.data.toList bd l t x y z)) ∧ Below w.heap.size w w' := by
  have HT := Lib.hid (fun w' (h : OrbIn w' nm a cap l) => tickErr_any nm bd t a cap l w' h)
  have HO := Lib.hid hO
  have HP := Lib.hid (fun w => IsPlace_any x y z w)
  by_cases h : atE nm.data.toList bd l t = 0
  · have hb0 : (atE nm.data.toList bd l t != 0) = false := by simp [h]
    rcases OrbitSides.placeE_or x y z with hp | hp
    · have e : sqE nm.data.toList bd l t x y z = 0 := by unfold sqE; rw [h, hp]; rfl
      rw [e]
      rw [show plB x y z = true from decide_eq_true hp] at HP
      clear h hp e hO
      generalize atE nm.data.toList bd l t = c at *
      refine Calls.made fun R HR => ?_
      go_enter Try.func39, Try.ntmps39
      go_wp2_with (first | (go_at_call 28; refine (HT.out _ (HO.out.below (by repeat' first | with_reducible exact Below.refl _ _ | with_reducible assumption | with_reducible refine Free.Grow.alloc ?_ _ | with_reducible refine Free.Grow.setCell ?_ (by first | omega | (simp; done) | (simp; omega)) _ | with_reducible refine Free.Grow.drew ?_ | with_reducible refine Free.Grow.trans ?_ (by assumption)))).mono ?_; rintro e w1 ⟨rfl, hb1⟩; have hc1 := (Free.cells_of hb1).1; have hf1 := (Free.cells_of hb1).2; have hz1 := hb1.size; (try simp only [World.size_alloc, World.size_setCell, World.size_drew] at hz1); (try (have : w.heap.size < w1.heap.size := (by omega))); (try (have : w.heap.size < w1.heap.size + 1 := (by omega))); (try (have : w.heap.size < w1.heap.size + 1 + 1 := (by omega))); (try (have : w.heap.size + 1 < w1.heap.size := (by omega))); (try (have : w.heap.size + 1 < w1.heap.size + 1 := (by omega))); (try (have : w.heap.size + 1 < w1.heap.size + 1 + 1 := (by omega))); (try (have : w.heap.size + 1 + 1 < w1.heap.size := (by omega))); (try (have : w.heap.size + 1 + 1 < w1.heap.size + 1 := (by omega))); (try (have : w.heap.size + 1 + 1 < w1.heap.size + 1 + 1 := (by omega))); (try (have : w.heap.size + 1 + 1 + 1 < w1.heap.size := (by omega))); (try (have : w.heap.size + 1 + 1 + 1 < w1.heap.size + 1 := (by omega))); (try (have : w.heap.size + 1 + 1 + 1 < w1.heap.size + 1 + 1 := (by omega)))) | (go_at_call 20; refine (HP.out _).mono ?_; rintro e w2 ⟨rfl, hb2⟩; have hc2 := (Free.cells_of hb2).1; have hf2 := (Free.cells_of hb2).2; have hz2 := hb2.size; (try simp only [World.size_alloc, World.size_setCell, World.size_drew] at hz2); (try (have : w.heap.size < w2.heap.size := (by omega))); (try (have : w.heap.size < w2.heap.size + 1 := (by omega))); (try (have : w.heap.size < w2.heap.size + 1 + 1 := (by omega))); (try (have : w.heap.size + 1 < w2.heap.size := (by omega))); (try (have : w.heap.size + 1 < w2.heap.size + 1 := (by omega))); (try (have : w.heap.size + 1 < w2.heap.size + 1 + 1 := (by omega))); (try (have : w.heap.size + 1 + 1 < w2.heap.size := (by omega))); (try (have : w.heap.size + 1 + 1 < w2.heap.size + 1 := (by omega))); (try (have : w.heap.size + 1 + 1 < w2.heap.size + 1 + 1 := (by omega))); (try (have : w.heap.size + 1 + 1 + 1 < w2.heap.size := (by omega))); (try (have : w.heap.size + 1 + 1 + 1 < w2.heap.size + 1 := (by omega))); (try (have : w.heap.size + 1 + 1 + 1 < w2.heap.size + 1 + 1 := (by omega))); (try (have : w1.heap.size < w2.heap.size := (by omega))); (try (have : w1.heap.size < w2.heap.size + 1 := (by omega))); (try (have : w1.heap.size < w2.heap.size + 1 + 1 := (by omega))); (try (have : w1.heap.size + 1 < w2.heap.size := (by omega))); (try (have : w1.heap.size + 1 < w2.heap.size + 1 := (by omega))); (try (have : w1.heap.size + 1 < w2.heap.size + 1 + 1 := (by omega))); (try (have : w1.heap.size + 1 + 1 < w2.heap.size := (by omega))); (try (have : w1.heap.size + 1 + 1 < w2.heap.size + 1 := (by omega))); (try (have : w1.heap.size + 1 + 1 < w2.heap.size + 1 + 1 := (by omega))); (try (have : w1.heap.size + 1 + 1 + 1 < w2.heap.size := (by omega))); (try (have : w1.heap.size + 1 + 1 + 1 < w2.heap.size + 1 := (by omega))); (try (have : w1.heap.size + 1 + 1 + 1 < w2.heap.size + 1 + 1 := (by omega)))))
      first | (go_ret; exact HR.out _ (by repeat' first | with_reducible exact Below.refl _ _ | with_reducible assumption | with_reducible refine Free.Grow.alloc ?_ _ | with_reducible refine Free.Grow.setCell ?_ (by first | omega | (simp; done) | (simp; omega)) _ | with_reducible refine Free.Grow.drew ?_ | with_reducible refine Free.Grow.trans ?_ (by assumption))) | exact HR.out _ (by repeat' first | with_reducible exact Below.refl _ _ | with_reducible assumption | with_reducible refine Free.Grow.alloc ?_ _ | with_reducible refine Free.Grow.setCell ?_ (by first | omega | (simp; done) | (simp; omega)) _ | with_reducible refine Free.Grow.drew ?_ | with_reducible refine Free.Grow.trans ?_ (by assumption))
    · have e : sqE nm.data.toList bd l t x y z = 2 := by unfold sqE; rw [h, hp]; rfl
      rw [e]
      rw [show plB x y z = false from decide_eq_false (by rw [hp]; decide)] at HP
      clear h hp e hO
      generalize atE nm.data.toList bd l t = c at *
      refine Calls.made fun R HR => ?_
      go_enter Try.func39, Try.ntmps39
      go_wp2_with (first | (go_at_call 28; refine (HT.out _ (HO.out.below (by repeat' first | with_reducible exact Below.refl _ _ | with_reducible assumption | with_reducible refine Free.Grow.alloc ?_ _ | with_reducible refine Free.Grow.setCell ?_ (by first | omega | (simp; done) | (simp; omega)) _ | with_reducible refine Free.Grow.drew ?_ | with_reducible refine Free.Grow.trans ?_ (by assumption)))).mono ?_; rintro e w1 ⟨rfl, hb1⟩; have hc1 := (Free.cells_of hb1).1; have hf1 := (Free.cells_of hb1).2; have hz1 := hb1.size; (try simp only [World.size_alloc, World.size_setCell, World.size_drew] at hz1); (try (have : w.heap.size < w1.heap.size := (by omega))); (try (have : w.heap.size < w1.heap.size + 1 := (by omega))); (try (have : w.heap.size < w1.heap.size + 1 + 1 := (by omega))); (try (have : w.heap.size + 1 < w1.heap.size := (by omega))); (try (have : w.heap.size + 1 < w1.heap.size + 1 := (by omega))); (try (have : w.heap.size + 1 < w1.heap.size + 1 + 1 := (by omega))); (try (have : w.heap.size + 1 + 1 < w1.heap.size := (by omega))); (try (have : w.heap.size + 1 + 1 < w1.heap.size + 1 := (by omega))); (try (have : w.heap.size + 1 + 1 < w1.heap.size + 1 + 1 := (by omega))); (try (have : w.heap.size + 1 + 1 + 1 < w1.heap.size := (by omega))); (try (have : w.heap.size + 1 + 1 + 1 < w1.heap.size + 1 := (by omega))); (try (have : w.heap.size + 1 + 1 + 1 < w1.heap.size + 1 + 1 := (by omega)))) | (go_at_call 20; refine (HP.out _).mono ?_; rintro e w2 ⟨rfl, hb2⟩; have hc2 := (Free.cells_of hb2).1; have hf2 := (Free.cells_of hb2).2; have hz2 := hb2.size; (try simp only [World.size_alloc, World.size_setCell, World.size_drew] at hz2); (try (have : w.heap.size < w2.heap.size := (by omega))); (try (have : w.heap.size < w2.heap.size + 1 := (by omega))); (try (have : w.heap.size < w2.heap.size + 1 + 1 := (by omega))); (try (have : w.heap.size + 1 < w2.heap.size := (by omega))); (try (have : w.heap.size + 1 < w2.heap.size + 1 := (by omega))); (try (have : w.heap.size + 1 < w2.heap.size + 1 + 1 := (by omega))); (try (have : w.heap.size + 1 + 1 < w2.heap.size := (by omega))); (try (have : w.heap.size + 1 + 1 < w2.heap.size + 1 := (by omega))); (try (have : w.heap.size + 1 + 1 < w2.heap.size + 1 + 1 := (by omega))); (try (have : w.heap.size + 1 + 1 + 1 < w2.heap.size := (by omega))); (try (have : w.heap.size + 1 + 1 + 1 < w2.heap.size + 1 := (by omega))); (try (have : w.heap.size + 1 + 1 + 1 < w2.heap.size + 1 + 1 := (by omega))); (try (have : w1.heap.size < w2.heap.size := (by omega))); (try (have : w1.heap.size < w2.heap.size + 1 := (by omega))); (try (have : w1.heap.size < w2.heap.size + 1 + 1 := (by omega))); (try (have : w1.heap.size + 1 < w2.heap.size := (by omega))); (try (have : w1.heap.size + 1 < w2.heap.size + 1 := (by omega))); (try (have : w1.heap.size + 1 < w2.heap.size + 1 + 1 := (by omega))); (try (have : w1.heap.size + 1 + 1 < w2.heap.size := (by omega))); (try (have : w1.heap.size + 1 + 1 < w2.heap.size + 1 := (by omega))); (try (have : w1.heap.size + 1 + 1 < w2.heap.size + 1 + 1 := (by omega))); (try (have : w1.heap.size + 1 + 1 + 1 < w2.heap.size := (by omega))); (try (have : w1.heap.size + 1 + 1 + 1 < w2.heap.size + 1 := (by omega))); (try (have : w1.heap.size + 1 + 1 + 1 < w2.heap.size + 1 + 1 := (by omega)))))
      first | (go_ret; exact HR.out _ (by repeat' first | with_reducible exact Below.refl _ _ | with_reducible assumption | with_reducible refine Free.Grow.alloc ?_ _ | with_reducible refine Free.Grow.setCell ?_ (by first | omega | (simp; done) | (simp; omega)) _ | with_reducible refine Free.Grow.drew ?_ | with_reducible refine Free.Grow.trans ?_ (by assumption))) | exact HR.out _ (by repeat' first | with_reducible exact Below.refl _ _ | with_reducible assumption | with_reducible refine Free.Grow.alloc ?_ _ | with_reducible refine Free.Grow.setCell ?_ (by first | omega | (simp; done) | (simp; omega)) _ | with_reducible refine Free.Grow.drew ?_ | with_reducible refine Free.Grow.trans ?_ (by assumption))
  · have hb0 : (atE nm.data.toList bd l t != 0) = true := by simpa using h
    have e : sqE nm.data.toList bd l t x y z = atE nm.data.toList bd l t := by unfold sqE; exact first_two h
    rw [e]
    clear h e hO
    generalize atE nm.data.toList bd l t = c at *
    refine Calls.made fun R HR => ?_
    go_enter Try.func39, Try.ntmps39
    go_wp2_with (go_at_call 28; refine (HT.out _ (HO.out.below (by repeat' first | with_reducible exact Below.refl _ _ | with_reducible assumption | with_reducible refine Free.Grow.alloc ?_ _ | with_reducible refine Free.Grow.setCell ?_ (by first | omega | (simp; done) | (simp; omega)) _ | with_reducible refine Free.Grow.drew ?_ | with_reducible refine Free.Grow.trans ?_ (by assumption)))).mono ?_; rintro e w1 ⟨rfl, hb1⟩; have hc1 := (Free.cells_of hb1).1; have hf1 := (Free.cells_of hb1).2; have hz1 := hb1.size; (try simp only [World.size_alloc, World.size_setCell, World.size_drew] at hz1); (try (have : w.heap.size < w1.heap.size := (by omega))); (try (have : w.heap.size < w1.heap.size + 1 := (by omega))); (try (have : w.heap.size < w1.heap.size + 1 + 1 := (by omega))); (try (have : w.heap.size + 1 < w1.heap.size := (by omega))); (try (have : w.heap.size + 1 < w1.heap.size + 1 := (by omega))); (try (have : w.heap.size + 1 < w1.heap.size + 1 + 1 := (by omega))); (try (have : w.heap.size + 1 + 1 < w1.heap.size := (by omega))); (try (have : w.heap.size + 1 + 1 < w1.heap.size + 1 := (by omega))); (try (have : w.heap.size + 1 + 1 < w1.heap.size + 1 + 1 := (by omega))); (try (have : w.heap.size + 1 + 1 + 1 < w1.heap.size := (by omega))); (try (have : w.heap.size + 1 + 1 + 1 < w1.heap.size + 1 := (by omega))); (try (have : w.heap.size + 1 + 1 + 1 < w1.heap.size + 1 + 1 := (by omega))))
    first | (go_ret; exact HR.out _ (by repeat' first | with_reducible exact Below.refl _ _ | with_reducible assumption | with_reducible refine Free.Grow.alloc ?_ _ | with_reducible refine Free.Grow.setCell ?_ (by first | omega | (simp; done) | (simp; omega)) _ | with_reducible refine Free.Grow.drew ?_ | with_reducible refine Free.Grow.trans ?_ (by assumption))) | exact HR.out _ (by repeat' first | with_reducible exact Below.refl _ _ | with_reducible assumption | with_reducible refine Free.Grow.alloc ?_ _ | with_reducible refine Free.Grow.setCell ?_ (by first | omega | (simp; done) | (simp; omega)) _ | with_reducible refine Free.Grow.drew ?_ | with_reducible refine Free.Grow.trans ?_ (by assumption))

set_option maxRecDepth 100000 in
set_option maxHeartbeats 2000000 in
theorem walk_few_no (nm : ByteArray) (bd t x y z : Int) (a : Option Addr) (n cap : Nat) (w : World) (hn : (n : Int) ≤ 9223372036854775807) (hnm : (nm.size : Int) ≤ 9223372036854775807) (hf : fewB nm.size n = false) :
    Calls Try.prog 8 #[obV nm bd a n cap, .int .i64 t, v3 x y z] w fun e w' => e = .returned (.bool true) ∧ Below w.heap.size w w' := by
  have HF := Lib.hid (fun w' => Few_any nm bd a n cap w' hn hnm)
  rw [hf] at HF
  clear hf
  refine Calls.made fun R HR => ?_
  go_enter Try.func8, Try.ntmps8
  go_wp2_with (first | (go_at_call 15; refine (awake_any _).mono ?_; rintro e w1 ⟨rfl, hb1⟩; have hc1 := (Free.cells_of hb1).1; have hf1 := (Free.cells_of hb1).2; have hz1 := hb1.size; (try simp only [World.size_alloc, World.size_setCell, World.size_drew] at hz1); (try (have : w.heap.size < w1.heap.size := (by omega))); (try (have : w.heap.size < w1.heap.size + 1 := (by omega))); (try (have : w.heap.size < w1.heap.size + 1 + 1 := (by omega))); (try (have : w.heap.size + 1 < w1.heap.size := (by omega))); (try (have : w.heap.size + 1 < w1.heap.size + 1 := (by omega))); (try (have : w.heap.size + 1 < w1.heap.size + 1 + 1 := (by omega))); (try (have : w.heap.size + 1 + 1 < w1.heap.size := (by omega))); (try (have : w.heap.size + 1 + 1 < w1.heap.size + 1 := (by omega))); (try (have : w.heap.size + 1 + 1 < w1.heap.size + 1 + 1 := (by omega))); (try (have : w.heap.size + 1 + 1 + 1 < w1.heap.size := (by omega))); (try (have : w.heap.size + 1 + 1 + 1 < w1.heap.size + 1 := (by omega))); (try (have : w.heap.size + 1 + 1 + 1 < w1.heap.size + 1 + 1 := (by omega)))) | (go_at_call 25; refine (HF.out _).mono ?_; rintro e w2 ⟨rfl, hb2⟩; have hc2 := (Free.cells_of hb2).1; have hf2 := (Free.cells_of hb2).2; have hz2 := hb2.size; (try simp only [World.size_alloc, World.size_setCell, World.size_drew] at hz2); (try (have : w.heap.size < w2.heap.size := (by omega))); (try (have : w.heap.size < w2.heap.size + 1 := (by omega))); (try (have : w.heap.size < w2.heap.size + 1 + 1 := (by omega))); (try (have : w.heap.size + 1 < w2.heap.size := (by omega))); (try (have : w.heap.size + 1 < w2.heap.size + 1 := (by omega))); (try (have : w.heap.size + 1 < w2.heap.size + 1 + 1 := (by omega))); (try (have : w.heap.size + 1 + 1 < w2.heap.size := (by omega))); (try (have : w.heap.size + 1 + 1 < w2.heap.size + 1 := (by omega))); (try (have : w.heap.size + 1 + 1 < w2.heap.size + 1 + 1 := (by omega))); (try (have : w.heap.size + 1 + 1 + 1 < w2.heap.size := (by omega))); (try (have : w.heap.size + 1 + 1 + 1 < w2.heap.size + 1 := (by omega))); (try (have : w.heap.size + 1 + 1 + 1 < w2.heap.size + 1 + 1 := (by omega))); (try (have : w1.heap.size < w2.heap.size := (by omega))); (try (have : w1.heap.size < w2.heap.size + 1 := (by omega))); (try (have : w1.heap.size < w2.heap.size + 1 + 1 := (by omega))); (try (have : w1.heap.size + 1 < w2.heap.size := (by omega))); (try (have : w1.heap.size + 1 < w2.heap.size + 1 := (by omega))); (try (have : w1.heap.size + 1 < w2.heap.size + 1 + 1 := (by omega))); (try (have : w1.heap.size + 1 + 1 < w2.heap.size := (by omega))); (try (have : w1.heap.size + 1 + 1 < w2.heap.size + 1 := (by omega))); (try (have : w1.heap.size + 1 + 1 < w2.heap.size + 1 + 1 := (by omega))); (try (have : w1.heap.size + 1 + 1 + 1 < w2.heap.size := (by omega))); (try (have : w1.heap.size + 1 + 1 + 1 < w2.heap.size + 1 := (by omega))); (try (have : w1.heap.size + 1 + 1 + 1 < w2.heap.size + 1 + 1 := (by omega)))))
  first | (go_ret; exact HR.out _ (by repeat' first | with_reducible exact Below.refl _ _ | with_reducible assumption | with_reducible refine Free.Grow.alloc ?_ _ | with_reducible refine Free.Grow.setCell ?_ (by first | omega | (simp; done) | (simp; omega)) _ | with_reducible refine Free.Grow.drew ?_ | with_reducible refine Free.Grow.trans ?_ (by assumption))) | exact HR.out _ (by repeat' first | with_reducible exact Below.refl _ _ | with_reducible assumption | with_reducible refine Free.Grow.alloc ?_ _ | with_reducible refine Free.Grow.setCell ?_ (by first | omega | (simp; done) | (simp; omega)) _ | with_reducible refine Free.Grow.drew ?_ | with_reducible refine Free.Grow.trans ?_ (by assumption))

set_option maxRecDepth 100000 in
set_option maxHeartbeats 4000000 in
theorem walk_err (nm : ByteArray) (bd t x y z : Int) (a : Option Addr) (cap : Nat) (l : List St) (w : World) (hO : OrbIn w nm a cap l) (hf : fewB nm.size l.length = true) (h : sqE nm.data.toList bd l t x y z ≠ 0) :
    Calls Try.prog 8 #[obV nm bd a l.length cap, .int .i64 t, v3 x y z] w fun e w' => e = .returned (.bool true) ∧ Below w.heap.size w w' := by
  have HF := Lib.hid (fun w' => Few_any nm bd a l.length cap w' hO.len (by have := hO.nm; omega))
  rw [hf] at HF
  have h40 := (fewB_spec hf).2
  have HC := Lib.hid (fun w' w0 S (h : OrbIn w' nm a cap l) (hs : Free.Safe w0 w' S) => Copy_rel (bd := bd) h (by omega) hs)
  have e1 : sqOr nm.data.toList bd l t x y z = (0, 0) := by unfold sqOr; rw [if_neg h]
  have e2 : distOr nm.data.toList bd l t x y z = (0, 0) := by unfold distOr; rw [if_neg h]
  have HS := Lib.hid (fun w' (g c : Nat) (h : OrbIn w' nm (some ⟨g, 0, none⟩) c l) => SquareAt_any nm bd t x y z (some ⟨g, 0, none⟩) c l w' h)
  rw [e1] at HS
  have HD := Lib.hid (fun w' (g c : Nat) (h : OrbIn w' nm (some ⟨g, 0, none⟩) c l) => DistanceAt_any nm bd t x y z (some ⟨g, 0, none⟩) c l w' h)
  rw [e2] at HD
  have HPE := Lib.hid (fun w' (h : OrbIn w' nm a cap l) => placeErr_any nm bd t x y z a cap l w' h)
  have hb1 : (sqE nm.data.toList bd l t x y z != 0) = true := by simpa using h
  have HO := Lib.hid hO
  clear h hO hf e1 e2
  generalize sqE nm.data.toList bd l t x y z = c at *
  refine Calls.made fun R HR => ?_
  go_enter Try.func8, Try.ntmps8
  go_wp2_with (first | (go_at_call 15; refine (awake_any _).mono ?_; rintro e w1 ⟨rfl, hb1⟩; have hc1 := (Free.cells_of hb1).1; have hf1 := (Free.cells_of hb1).2; have hz1 := hb1.size; (try simp only [World.size_alloc, World.size_setCell, World.size_drew] at hz1); (try (have : w.heap.size < w1.heap.size := (by omega))); (try (have : w.heap.size < w1.heap.size + 1 := (by omega))); (try (have : w.heap.size < w1.heap.size + 1 + 1 := (by omega))); (try (have : w.heap.size + 1 < w1.heap.size := (by omega))); (try (have : w.heap.size + 1 < w1.heap.size + 1 := (by omega))); (try (have : w.heap.size + 1 < w1.heap.size + 1 + 1 := (by omega))); (try (have : w.heap.size + 1 + 1 < w1.heap.size := (by omega))); (try (have : w.heap.size + 1 + 1 < w1.heap.size + 1 := (by omega))); (try (have : w.heap.size + 1 + 1 < w1.heap.size + 1 + 1 := (by omega))); (try (have : w.heap.size + 1 + 1 + 1 < w1.heap.size := (by omega))); (try (have : w.heap.size + 1 + 1 + 1 < w1.heap.size + 1 := (by omega))); (try (have : w.heap.size + 1 + 1 + 1 < w1.heap.size + 1 + 1 := (by omega)))) | (go_at_call 25; refine (HF.out _).mono ?_; rintro e w2 ⟨rfl, hb2⟩; have hc2 := (Free.cells_of hb2).1; have hf2 := (Free.cells_of hb2).2; have hz2 := hb2.size; (try simp only [World.size_alloc, World.size_setCell, World.size_drew] at hz2); (try (have : w.heap.size < w2.heap.size := (by omega))); (try (have : w.heap.size < w2.heap.size + 1 := (by omega))); (try (have : w.heap.size < w2.heap.size + 1 + 1 := (by omega))); (try (have : w.heap.size + 1 < w2.heap.size := (by omega))); (try (have : w.heap.size + 1 < w2.heap.size + 1 := (by omega))); (try (have : w.heap.size + 1 < w2.heap.size + 1 + 1 := (by omega))); (try (have : w.heap.size + 1 + 1 < w2.heap.size := (by omega))); (try (have : w.heap.size + 1 + 1 < w2.heap.size + 1 := (by omega))); (try (have : w.heap.size + 1 + 1 < w2.heap.size + 1 + 1 := (by omega))); (try (have : w.heap.size + 1 + 1 + 1 < w2.heap.size := (by omega))); (try (have : w.heap.size + 1 + 1 + 1 < w2.heap.size + 1 := (by omega))); (try (have : w.heap.size + 1 + 1 + 1 < w2.heap.size + 1 + 1 := (by omega))); (try (have : w1.heap.size < w2.heap.size := (by omega))); (try (have : w1.heap.size < w2.heap.size + 1 := (by omega))); (try (have : w1.heap.size < w2.heap.size + 1 + 1 := (by omega))); (try (have : w1.heap.size + 1 < w2.heap.size := (by omega))); (try (have : w1.heap.size + 1 < w2.heap.size + 1 := (by omega))); (try (have : w1.heap.size + 1 < w2.heap.size + 1 + 1 := (by omega))); (try (have : w1.heap.size + 1 + 1 < w2.heap.size := (by omega))); (try (have : w1.heap.size + 1 + 1 < w2.heap.size + 1 := (by omega))); (try (have : w1.heap.size + 1 + 1 < w2.heap.size + 1 + 1 := (by omega))); (try (have : w1.heap.size + 1 + 1 + 1 < w2.heap.size := (by omega))); (try (have : w1.heap.size + 1 + 1 + 1 < w2.heap.size + 1 := (by omega))); (try (have : w1.heap.size + 1 + 1 + 1 < w2.heap.size + 1 + 1 := (by omega)))))
  refine Free.wp_region 11 #[0, 1, 0, 0, 15, 31, 63, 63, 0, 383, 1023] (by kernel_rfl) (by kernel_rfl) ?_
  simp only [List.take_succ_cons, List.take_zero]
  iterate 1
    refine Free.E.q (by rfl) ?_
    apply Exists.intro
    refine ⟨fun u w' hc hb => ?_, ?_⟩
    go_simp
    (try go_ints); (try simp only [Ob.ite_imx, Ob.ite_imn]); first | exact rfl | (go_simp; exact rfl) | (simp only [↓IntWalk.iteOmega]; (try go_simp); exact rfl)
    simp only [Act.put, List.setIfInBounds_toArray, List.set_cons_zero, List.set_cons_succ, List.nil_append, List.cons_append]
  refine Free.E.r (F := CopyF nm bd l) (by rfl) (CopyF.mono nm bd l) (fun u w' S hc hb hs => ?_) ?_
  · go_simp
    refine Free.relUpon_enter ?_
    exact HC.out _ _ _ (HO.out.below (by repeat' first | with_reducible exact Below.refl _ _ | with_reducible assumption | with_reducible refine Free.Grow.alloc ?_ _ | with_reducible refine Free.Grow.setCell ?_ (by first | omega | (simp; done) | (simp; omega)) _ | with_reducible refine Free.Grow.drew ?_ | with_reducible refine Free.Grow.trans ?_ (by assumption))) hs
  simp only [Act.put, List.setIfInBounds_toArray, List.set_cons_zero, List.set_cons_succ, List.nil_append, List.cons_append]
  iterate 2
    refine Free.E.q (by rfl) ?_
    apply Exists.intro
    refine ⟨fun u w' hc hb => ?_, ?_⟩
    go_simp
    (try go_ints); (try simp only [Ob.ite_imx, Ob.ite_imn]); first | exact rfl | (go_simp; exact rfl) | (simp only [↓IntWalk.iteOmega]; (try go_simp); exact rfl)
    simp only [Act.put, List.setIfInBounds_toArray, List.set_cons_zero, List.set_cons_succ, List.nil_append, List.cons_append]
  refine Free.E.qf (by rfl) ?_
  apply Exists.intro
  refine ⟨fun u w' S hc hb hF => ?_, ?_⟩
  · obtain ⟨gx, capx, hux, hgx, -, hOx⟩ := hF 1 _ rfl (by rfl)
    go_simp
    try simp only [hux]
    (go_at_call 37; exact HS.out _ _ _ hOx)
  simp only [Act.put, List.setIfInBounds_toArray, List.set_cons_zero, List.set_cons_succ, List.nil_append, List.cons_append]
  iterate 3
    refine Free.E.q (by rfl) ?_
    apply Exists.intro
    refine ⟨fun u w' hc hb => ?_, ?_⟩
    go_simp
    (try go_ints); (try simp only [Ob.ite_imx, Ob.ite_imn]); first | exact rfl | (go_simp; exact rfl) | (simp only [↓IntWalk.iteOmega]; (try go_simp); exact rfl)
    simp only [Act.put, List.setIfInBounds_toArray, List.set_cons_zero, List.set_cons_succ, List.nil_append, List.cons_append]
  refine Free.E.new (z := #[.int .i64 0, .int .i64 0]) (by rfl) rfl (by kernel_rfl) ?_
  simp only [Act.put, List.setIfInBounds_toArray, List.set_cons_zero, List.set_cons_succ, List.nil_append, List.cons_append]
  refine Free.E.init (k := 8) (by rfl) (by rfl) rfl rfl (by rfl) (by decide) (by rfl) (fun _ => rfl) (fun _ => rfl) (by kernel_rfl) rfl rfl (by rfl) ?_
  simp only [List.nil_append, List.cons_append]
  iterate 1
    refine Free.E.q (by rfl) ?_
    apply Exists.intro
    refine ⟨fun u w' hc hb => ?_, ?_⟩
    go_simp
    (try go_ints); (try simp only [Ob.ite_imx, Ob.ite_imn]); first | exact rfl | (go_simp; exact rfl) | (simp only [↓IntWalk.iteOmega]; (try go_simp); exact rfl)
    simp only [Act.put, List.setIfInBounds_toArray, List.set_cons_zero, List.set_cons_succ, List.nil_append, List.cons_append]
  refine Free.E.nil (fun u w3 S hF => ?_)
  have hb3 := hF.below
  obtain ⟨b3_8, hu3_8, hlo3_8, hhi3_8, -, hk3_8⟩ := hF.allocs 8 _ _ rfl
  simp only [Free.final, List.findSome?, reduceIte, Option.getD_some, Option.getD_none, Nat.reduceEqDiff, Value.cells] at hk3_8
  have hm3_1 := hF.facts 1 _ rfl
  clear hF
  have hc3 := (Free.cells_of hb3).1
  have hf3 := (Free.cells_of hb3).2
  have hz3 := hb3.size
  simp only [hu3_8]
  have hcb3_8 := Free.cell_of_blk hk3_8
  have hfb3_8 := Free.frozen_of_blk hk3_8
  clear hu3_8 hk3_8
  obtain ⟨g3_1, cap3_1, hu3_1, hg3_1, -, hO3_1⟩ := hm3_1
  simp only [hu3_1]
  have HO3_1 := Lib.hid hO3_1
  clear hu3_1 hO3_1
  try simp only [World.size_alloc, World.size_setCell, World.size_drew] at hz3 hlo3_8
  (try (have : w.heap.size < w3.heap.size := (by omega)))
  (try (have : w.heap.size < w3.heap.size + 1 := (by omega)))
  (try (have : w.heap.size < w3.heap.size + 1 + 1 := (by omega)))
  (try (have : w.heap.size + 1 < w3.heap.size := (by omega)))
  (try (have : w.heap.size + 1 < w3.heap.size + 1 := (by omega)))
  (try (have : w.heap.size + 1 < w3.heap.size + 1 + 1 := (by omega)))
  (try (have : w.heap.size + 1 + 1 < w3.heap.size := (by omega)))
  (try (have : w.heap.size + 1 + 1 < w3.heap.size + 1 := (by omega)))
  (try (have : w.heap.size + 1 + 1 < w3.heap.size + 1 + 1 := (by omega)))
  (try (have : w.heap.size + 1 + 1 + 1 < w3.heap.size := (by omega)))
  (try (have : w.heap.size + 1 + 1 + 1 < w3.heap.size + 1 := (by omega)))
  (try (have : w.heap.size + 1 + 1 + 1 < w3.heap.size + 1 + 1 := (by omega)))
  (try (have : w1.heap.size < w3.heap.size := (by omega)))
  (try (have : w1.heap.size < w3.heap.size + 1 := (by omega)))
  (try (have : w1.heap.size < w3.heap.size + 1 + 1 := (by omega)))
  (try (have : w1.heap.size + 1 < w3.heap.size := (by omega)))
  (try (have : w1.heap.size + 1 < w3.heap.size + 1 := (by omega)))
  (try (have : w1.heap.size + 1 < w3.heap.size + 1 + 1 := (by omega)))
  (try (have : w1.heap.size + 1 + 1 < w3.heap.size := (by omega)))
  (try (have : w1.heap.size + 1 + 1 < w3.heap.size + 1 := (by omega)))
  (try (have : w1.heap.size + 1 + 1 < w3.heap.size + 1 + 1 := (by omega)))
  (try (have : w1.heap.size + 1 + 1 + 1 < w3.heap.size := (by omega)))
  (try (have : w1.heap.size + 1 + 1 + 1 < w3.heap.size + 1 := (by omega)))
  (try (have : w1.heap.size + 1 + 1 + 1 < w3.heap.size + 1 + 1 := (by omega)))
  (try (have : w2.heap.size < w3.heap.size := (by omega)))
  (try (have : w2.heap.size < w3.heap.size + 1 := (by omega)))
  (try (have : w2.heap.size < w3.heap.size + 1 + 1 := (by omega)))
  (try (have : w2.heap.size + 1 < w3.heap.size := (by omega)))
  (try (have : w2.heap.size + 1 < w3.heap.size + 1 := (by omega)))
  (try (have : w2.heap.size + 1 < w3.heap.size + 1 + 1 := (by omega)))
  (try (have : w2.heap.size + 1 + 1 < w3.heap.size := (by omega)))
  (try (have : w2.heap.size + 1 + 1 < w3.heap.size + 1 := (by omega)))
  (try (have : w2.heap.size + 1 + 1 < w3.heap.size + 1 + 1 := (by omega)))
  (try (have : w2.heap.size + 1 + 1 + 1 < w3.heap.size := (by omega)))
  (try (have : w2.heap.size + 1 + 1 + 1 < w3.heap.size + 1 := (by omega)))
  (try (have : w2.heap.size + 1 + 1 + 1 < w3.heap.size + 1 + 1 := (by omega)))
  simp only [List.drop_succ_cons, List.drop_zero, List.drop_nil]
  go_wp2
  refine Free.wp_region 11 #[0, 1, 0, 0, 15, 31, 63, 63, 0, 383, 1023] (by kernel_rfl) (by kernel_rfl) ?_
  simp only [List.take_succ_cons, List.take_zero]
  iterate 1
    refine Free.E.q (by rfl) ?_
    apply Exists.intro
    refine ⟨fun u w' hc hb => ?_, ?_⟩
    go_simp
    (try go_ints); (try simp only [Ob.ite_imx, Ob.ite_imn]); first | exact rfl | (go_simp; exact rfl) | (simp only [↓IntWalk.iteOmega]; (try go_simp); exact rfl)
    simp only [Act.put, List.setIfInBounds_toArray, List.set_cons_zero, List.set_cons_succ, List.nil_append, List.cons_append]
  refine Free.E.r (F := CopyF nm bd l) (by rfl) (CopyF.mono nm bd l) (fun u w' S hc hb hs => ?_) ?_
  · go_simp
    refine Free.relUpon_enter ?_
    exact HC.out _ _ _ (HO.out.below (by repeat' first | with_reducible exact Below.refl _ _ | with_reducible assumption | with_reducible refine Free.Grow.alloc ?_ _ | with_reducible refine Free.Grow.setCell ?_ (by first | omega | (simp; done) | (simp; omega)) _ | with_reducible refine Free.Grow.drew ?_ | with_reducible refine Free.Grow.trans ?_ (by assumption))) hs
  simp only [Act.put, List.setIfInBounds_toArray, List.set_cons_zero, List.set_cons_succ, List.nil_append, List.cons_append]
  iterate 2
    refine Free.E.q (by rfl) ?_
    apply Exists.intro
    refine ⟨fun u w' hc hb => ?_, ?_⟩
    go_simp
    (try go_ints); (try simp only [Ob.ite_imx, Ob.ite_imn]); first | exact rfl | (go_simp; exact rfl) | (simp only [↓IntWalk.iteOmega]; (try go_simp); exact rfl)
    simp only [Act.put, List.setIfInBounds_toArray, List.set_cons_zero, List.set_cons_succ, List.nil_append, List.cons_append]
  refine Free.E.qf (by rfl) ?_
  apply Exists.intro
  refine ⟨fun u w' S hc hb hF => ?_, ?_⟩
  · obtain ⟨gx, capx, hux, hgx, -, hOx⟩ := hF 1 _ rfl (by rfl)
    go_simp
    try simp only [hux]
    (go_at_call 38; exact HD.out _ _ _ hOx)
  simp only [Act.put, List.setIfInBounds_toArray, List.set_cons_zero, List.set_cons_succ, List.nil_append, List.cons_append]
  iterate 3
    refine Free.E.q (by rfl) ?_
    apply Exists.intro
    refine ⟨fun u w' hc hb => ?_, ?_⟩
    go_simp
    (try go_ints); (try simp only [Ob.ite_imx, Ob.ite_imn]); first | exact rfl | (go_simp; exact rfl) | (simp only [↓IntWalk.iteOmega]; (try go_simp); exact rfl)
    simp only [Act.put, List.setIfInBounds_toArray, List.set_cons_zero, List.set_cons_succ, List.nil_append, List.cons_append]
  refine Free.E.new (z := #[.int .i64 0, .int .i64 0]) (by rfl) rfl (by kernel_rfl) ?_
  simp only [Act.put, List.setIfInBounds_toArray, List.set_cons_zero, List.set_cons_succ, List.nil_append, List.cons_append]
  refine Free.E.init (k := 8) (by rfl) (by rfl) rfl rfl (by rfl) (by decide) (by rfl) (fun _ => rfl) (fun _ => rfl) (by kernel_rfl) rfl rfl (by rfl) ?_
  simp only [List.nil_append, List.cons_append]
  iterate 1
    refine Free.E.q (by rfl) ?_
    apply Exists.intro
    refine ⟨fun u w' hc hb => ?_, ?_⟩
    go_simp
    (try go_ints); (try simp only [Ob.ite_imx, Ob.ite_imn]); first | exact rfl | (go_simp; exact rfl) | (simp only [↓IntWalk.iteOmega]; (try go_simp); exact rfl)
    simp only [Act.put, List.setIfInBounds_toArray, List.set_cons_zero, List.set_cons_succ, List.nil_append, List.cons_append]
  refine Free.E.nil (fun u w4 S hF => ?_)
  have hb4 := hF.below
  obtain ⟨b4_8, hu4_8, hlo4_8, hhi4_8, -, hk4_8⟩ := hF.allocs 8 _ _ rfl
  simp only [Free.final, List.findSome?, reduceIte, Option.getD_some, Option.getD_none, Nat.reduceEqDiff, Value.cells] at hk4_8
  have hm4_1 := hF.facts 1 _ rfl
  clear hF
  have hc4 := (Free.cells_of hb4).1
  have hf4 := (Free.cells_of hb4).2
  have hz4 := hb4.size
  simp only [hu4_8]
  have hcb4_8 := Free.cell_of_blk hk4_8
  have hfb4_8 := Free.frozen_of_blk hk4_8
  clear hu4_8 hk4_8
  obtain ⟨g4_1, cap4_1, hu4_1, hg4_1, -, hO4_1⟩ := hm4_1
  simp only [hu4_1]
  have HO4_1 := Lib.hid hO4_1
  clear hu4_1 hO4_1
  try simp only [World.size_alloc, World.size_setCell, World.size_drew] at hz4 hlo4_8
  (try (have : w.heap.size < w4.heap.size := (by omega)))
  (try (have : w.heap.size < w4.heap.size + 1 := (by omega)))
  (try (have : w.heap.size < w4.heap.size + 1 + 1 := (by omega)))
  (try (have : w.heap.size + 1 < w4.heap.size := (by omega)))
  (try (have : w.heap.size + 1 < w4.heap.size + 1 := (by omega)))
  (try (have : w.heap.size + 1 < w4.heap.size + 1 + 1 := (by omega)))
  (try (have : w.heap.size + 1 + 1 < w4.heap.size := (by omega)))
  (try (have : w.heap.size + 1 + 1 < w4.heap.size + 1 := (by omega)))
  (try (have : w.heap.size + 1 + 1 < w4.heap.size + 1 + 1 := (by omega)))
  (try (have : w.heap.size + 1 + 1 + 1 < w4.heap.size := (by omega)))
  (try (have : w.heap.size + 1 + 1 + 1 < w4.heap.size + 1 := (by omega)))
  (try (have : w.heap.size + 1 + 1 + 1 < w4.heap.size + 1 + 1 := (by omega)))
  (try (have : w1.heap.size < w4.heap.size := (by omega)))
  (try (have : w1.heap.size < w4.heap.size + 1 := (by omega)))
  (try (have : w1.heap.size < w4.heap.size + 1 + 1 := (by omega)))
  (try (have : w1.heap.size + 1 < w4.heap.size := (by omega)))
  (try (have : w1.heap.size + 1 < w4.heap.size + 1 := (by omega)))
  (try (have : w1.heap.size + 1 < w4.heap.size + 1 + 1 := (by omega)))
  (try (have : w1.heap.size + 1 + 1 < w4.heap.size := (by omega)))
  (try (have : w1.heap.size + 1 + 1 < w4.heap.size + 1 := (by omega)))
  (try (have : w1.heap.size + 1 + 1 < w4.heap.size + 1 + 1 := (by omega)))
  (try (have : w1.heap.size + 1 + 1 + 1 < w4.heap.size := (by omega)))
  (try (have : w1.heap.size + 1 + 1 + 1 < w4.heap.size + 1 := (by omega)))
  (try (have : w1.heap.size + 1 + 1 + 1 < w4.heap.size + 1 + 1 := (by omega)))
  (try (have : w2.heap.size < w4.heap.size := (by omega)))
  (try (have : w2.heap.size < w4.heap.size + 1 := (by omega)))
  (try (have : w2.heap.size < w4.heap.size + 1 + 1 := (by omega)))
  (try (have : w2.heap.size + 1 < w4.heap.size := (by omega)))
  (try (have : w2.heap.size + 1 < w4.heap.size + 1 := (by omega)))
  (try (have : w2.heap.size + 1 < w4.heap.size + 1 + 1 := (by omega)))
  (try (have : w2.heap.size + 1 + 1 < w4.heap.size := (by omega)))
  (try (have : w2.heap.size + 1 + 1 < w4.heap.size + 1 := (by omega)))
  (try (have : w2.heap.size + 1 + 1 < w4.heap.size + 1 + 1 := (by omega)))
  (try (have : w2.heap.size + 1 + 1 + 1 < w4.heap.size := (by omega)))
  (try (have : w2.heap.size + 1 + 1 + 1 < w4.heap.size + 1 := (by omega)))
  (try (have : w2.heap.size + 1 + 1 + 1 < w4.heap.size + 1 + 1 := (by omega)))
  (try (have : w3.heap.size < w4.heap.size := (by omega)))
  (try (have : w3.heap.size < w4.heap.size + 1 := (by omega)))
  (try (have : w3.heap.size < w4.heap.size + 1 + 1 := (by omega)))
  (try (have : w3.heap.size + 1 < w4.heap.size := (by omega)))
  (try (have : w3.heap.size + 1 < w4.heap.size + 1 := (by omega)))
  (try (have : w3.heap.size + 1 < w4.heap.size + 1 + 1 := (by omega)))
  (try (have : w3.heap.size + 1 + 1 < w4.heap.size := (by omega)))
  (try (have : w3.heap.size + 1 + 1 < w4.heap.size + 1 := (by omega)))
  (try (have : w3.heap.size + 1 + 1 < w4.heap.size + 1 + 1 := (by omega)))
  (try (have : w3.heap.size + 1 + 1 + 1 < w4.heap.size := (by omega)))
  (try (have : w3.heap.size + 1 + 1 + 1 < w4.heap.size + 1 := (by omega)))
  (try (have : w3.heap.size + 1 + 1 + 1 < w4.heap.size + 1 + 1 := (by omega)))
  (try (have : b3_8 < w4.heap.size := (by omega)))
  (try (have : b3_8 < w4.heap.size + 1 := (by omega)))
  (try (have : b3_8 < w4.heap.size + 1 + 1 := (by omega)))
  simp only [List.drop_succ_cons, List.drop_zero, List.drop_nil]
  go_wp2_with fail
  refine (HPE.out _ (HO.out.below (by repeat' first | with_reducible exact Below.refl _ _ | with_reducible assumption | with_reducible refine Free.Grow.alloc ?_ _ | with_reducible refine Free.Grow.setCell ?_ (by first | omega | (simp; done) | (simp; omega)) _ | with_reducible refine Free.Grow.drew ?_ | with_reducible refine Free.Grow.trans ?_ (by assumption)))).mono ?_
  rintro e w5 ⟨rfl, hb5⟩
  have hc5 := (Free.cells_of hb5).1; have hf5 := (Free.cells_of hb5).2; have hz5 := hb5.size; (try simp only [World.size_alloc, World.size_setCell, World.size_drew] at hz5)
  (try (have : w.heap.size < w5.heap.size := (by omega))); (try (have : w.heap.size < w5.heap.size + 1 := (by omega))); (try (have : w.heap.size < w5.heap.size + 1 + 1 := (by omega))); (try (have : w.heap.size + 1 < w5.heap.size := (by omega))); (try (have : w.heap.size + 1 < w5.heap.size + 1 := (by omega))); (try (have : w.heap.size + 1 < w5.heap.size + 1 + 1 := (by omega))); (try (have : w.heap.size + 1 + 1 < w5.heap.size := (by omega))); (try (have : w.heap.size + 1 + 1 < w5.heap.size + 1 := (by omega))); (try (have : w.heap.size + 1 + 1 < w5.heap.size + 1 + 1 := (by omega))); (try (have : w.heap.size + 1 + 1 + 1 < w5.heap.size := (by omega))); (try (have : w.heap.size + 1 + 1 + 1 < w5.heap.size + 1 := (by omega))); (try (have : w.heap.size + 1 + 1 + 1 < w5.heap.size + 1 + 1 := (by omega))); (try (have : w3.heap.size < w5.heap.size := (by omega))); (try (have : w3.heap.size < w5.heap.size + 1 := (by omega))); (try (have : w3.heap.size < w5.heap.size + 1 + 1 := (by omega))); (try (have : w3.heap.size + 1 < w5.heap.size := (by omega))); (try (have : w3.heap.size + 1 < w5.heap.size + 1 := (by omega))); (try (have : w3.heap.size + 1 < w5.heap.size + 1 + 1 := (by omega))); (try (have : w3.heap.size + 1 + 1 < w5.heap.size := (by omega))); (try (have : w3.heap.size + 1 + 1 < w5.heap.size + 1 := (by omega))); (try (have : w3.heap.size + 1 + 1 < w5.heap.size + 1 + 1 := (by omega))); (try (have : w3.heap.size + 1 + 1 + 1 < w5.heap.size := (by omega))); (try (have : w3.heap.size + 1 + 1 + 1 < w5.heap.size + 1 := (by omega))); (try (have : w3.heap.size + 1 + 1 + 1 < w5.heap.size + 1 + 1 := (by omega))); (try (have : b3_8 < w5.heap.size := (by omega))); (try (have : b3_8 < w5.heap.size + 1 := (by omega))); (try (have : b3_8 < w5.heap.size + 1 + 1 := (by omega))); (try (have : b4_8 < w5.heap.size := (by omega))); (try (have : b4_8 < w5.heap.size + 1 := (by omega))); (try (have : b4_8 < w5.heap.size + 1 + 1 := (by omega)))
  go_wp2
  first | (go_ret; exact HR.out _ (by repeat' first | with_reducible exact Below.refl _ _ | with_reducible assumption | with_reducible refine Free.Grow.alloc ?_ _ | with_reducible refine Free.Grow.setCell ?_ (by first | omega | (simp; done) | (simp; omega)) _ | with_reducible refine Free.Grow.drew ?_ | with_reducible refine Free.Grow.trans ?_ (by assumption))) | exact HR.out _ (by repeat' first | with_reducible exact Below.refl _ _ | with_reducible assumption | with_reducible refine Free.Grow.alloc ?_ _ | with_reducible refine Free.Grow.setCell ?_ (by first | omega | (simp; done) | (simp; omega)) _ | with_reducible refine Free.Grow.drew ?_ | with_reducible refine Free.Grow.trans ?_ (by assumption))

set_option maxRecDepth 100000 in
set_option maxHeartbeats 8000000 in
theorem walk_ok (nm : ByteArray) (bd t x y z : Int) (a : Option Addr) (cap : Nat) (l : List St) (w : World) (hO : OrbIn w nm a cap l) (hf : fewB nm.size l.length = true) (h : sqE nm.data.toList bd l t x y z = 0) :
    Calls Try.prog 8 #[obV nm bd a l.length cap, .int .i64 t, v3 x y z] w fun e w' => e = .returned (.bool true) ∧ Below w.heap.size w w' := by
  have HF := Lib.hid (fun w' => Few_any nm bd a l.length cap w' hO.len (by have := hO.nm; omega))
  rw [hf] at HF
  have h40 := (fewB_spec hf).2
  have h2 := (firstE_two _ _).1 h
  obtain ⟨hR, h0, h1⟩ := atE_zero h2.1
  obtain ⟨hx, hy, hz⟩ := placeE_zero h2.2
  obtain ⟨b, off, rfl, hbw, hmem⟩ := hO.mem hR
  have HC := Lib.hid (fun w' w0 S (h : OrbIn w' nm (some ⟨b, off, none⟩) cap l) (hs : Free.Safe w0 w' S) => Copy_rel (bd := bd) h (by omega) hs)
  have e1 : sqOr nm.data.toList bd l t x y z = (sqLo (bx bd l t) x y z, sqHi (bx bd l t) x y z) := by unfold sqOr; rw [if_pos h]
  have e2 : distOr nm.data.toList bd l t x y z = (rt (sqLo (bx bd l t) x y z), rtUp (sqHi (bx bd l t) x y z)) := by unfold distOr; rw [if_pos h]
  have HS := Lib.hid (fun w' (g c : Nat) (h : OrbIn w' nm (some ⟨g, 0, none⟩) c l) => SquareAt_any nm bd t x y z (some ⟨g, 0, none⟩) c l w' h)
  rw [e1] at HS
  have HD := Lib.hid (fun w' (g c : Nat) (h : OrbIn w' nm (some ⟨g, 0, none⟩) c l) => DistanceAt_any nm bd t x y z (some ⟨g, 0, none⟩) c l w' h)
  rw [e2] at HD
  have HPE := Lib.hid (fun w' (h : OrbIn w' nm (some ⟨b, off, none⟩) cap l) => placeErr_any nm bd t x y z (some ⟨b, off, none⟩) cap l w' h)
  have HRN := Lib.hid (fun w' (hS : HasSts w' b off l) (hb : b < w'.heap.size) => rNominal_any nm bd t b off cap l w' hR h0 h1 hS hb)
  have HRB := Lib.hid (fun w' (hS : HasSts w' b off l) (hb : b < w'.heap.size) => rBoxAt_any nm bd t b off cap l w' hR h0 h1 hS hb)
  rw [(same_place hR h0 h1).1] at HRN
  rw [(same_place hR h0 h1).2] at HRB
  have hbx := bx_ok hR h0 h1
  have hnb := nom_bd hR h0 h1
  have hin := OrbitPlaces.nom_in hR h0 h1
  rw [rngB_true, rngB_true, rngB_true] at hin
  have hsum := sums_in (x := x) (y := y) (z := z) hin.1.1 hin.1.2 hin.2
  have hss := sq_sums hbx (x := x) (y := y) (z := z) (by omega) (by omega) (by omega)
  have hnd := dsq_bd hnb hx hy hz
  have HRS := Lib.hid (fun w => rSquares_any (bx bd l t) x y z w hbx (by omega) (by omega) (by omega))
  have HO := Lib.hid hO
  have HM := Lib.hid hmem
  rw [h] at HS HD HPE
  have hdq : dsq (nom l t) x y z = ((nom l t).x - x) * ((nom l t).x - x) + ((nom l t).y - y) * ((nom l t).y - y) + ((nom l t).z - z) * ((nom l t).z - z) := rfl
  rw [hdq] at hsum
  clear h hO hf e1 e2 h2 hR h0 h1 hmem hbx hin hdq
  generalize nom l t = p at *
  generalize bx bd l t = q at *
  generalize sqLo q x y z = s0 at *
  generalize sqHi q x y z = s1 at *
  obtain ⟨px, py, pz⟩ := p
  obtain ⟨q0, q1, q2, q3, q4, q5⟩ := q
  simp only [p3V, bxV] at HS HD HRN HRB HRS hnb hnd hsum
  obtain ⟨⟨s00, s01⟩, s10, s11⟩ := hss
  obtain ⟨r0, r1, r2⟩ := rt_spec s00
  obtain ⟨u0, u1⟩ := up_rt s1 s10
  obtain ⟨v0, v1, v2⟩ := rt_spec s10
  have u2 : rtUp s1 ≤ 866025405 := by
    have := rt_lt (m := 866025404) s10 (by omega) (by omega)
    unfold rtUp; split <;> omega
  have u3 := sq_bd (n := rtUp s1) (M := 866025405) (by omega) u2
  have r3 := Int.mul_nonneg r0 r0
  have HRD := Lib.hid (fun w => rDistances_any s0 s1 w (by omega) (by omega) (by omega) (by omega))
  have hSq := Lib.hid (fun w => rSquare_any px py pz x y z w (by omega) (by omega) (by omega))
  generalize hd : (px - x) * (px - x) + (py - y) * (py - y) + (pz - z) * (pz - z) = d at *
  have HI0 := Lib.hid (fun w => rWithin_any d s0 s1 w)
  rw [show rngB d s0 s1 = true from rngB_true.2 hsum] at HI0
  have t1 : rt s0 * rt s0 ≤ d := by omega
  have t2 : d ≤ rtUp s1 * rtUp s1 := by omega
  have T1 := Lib.hid t1
  have T2 := Lib.hid t2
  obtain ⟨u4, u5⟩ := u3
  generalize rt s0 = z0 at *
  generalize rtUp s1 = z1 at *
  clear hd hsum hnd hnb v0 v1 v2 u0 t1 t2
  refine Calls.made fun R HR => ?_
  go_enter Try.func8, Try.ntmps8
  go_wp2_with (first | (go_at_call 15; refine (awake_any _).mono ?_; rintro e w1 ⟨rfl, hb1⟩; have hc1 := (Free.cells_of hb1).1; have hf1 := (Free.cells_of hb1).2; have hz1 := hb1.size; (try simp only [World.size_alloc, World.size_setCell, World.size_drew] at hz1); (try (have : w.heap.size < w1.heap.size := (by omega))); (try (have : w.heap.size < w1.heap.size + 1 := (by omega))); (try (have : w.heap.size < w1.heap.size + 1 + 1 := (by omega))); (try (have : w.heap.size + 1 < w1.heap.size := (by omega))); (try (have : w.heap.size + 1 < w1.heap.size + 1 := (by omega))); (try (have : w.heap.size + 1 < w1.heap.size + 1 + 1 := (by omega))); (try (have : w.heap.size + 1 + 1 < w1.heap.size := (by omega))); (try (have : w.heap.size + 1 + 1 < w1.heap.size + 1 := (by omega))); (try (have : w.heap.size + 1 + 1 < w1.heap.size + 1 + 1 := (by omega))); (try (have : w.heap.size + 1 + 1 + 1 < w1.heap.size := (by omega))); (try (have : w.heap.size + 1 + 1 + 1 < w1.heap.size + 1 := (by omega))); (try (have : w.heap.size + 1 + 1 + 1 < w1.heap.size + 1 + 1 := (by omega)))) | (go_at_call 25; refine (HF.out _).mono ?_; rintro e w2 ⟨rfl, hb2⟩; have hc2 := (Free.cells_of hb2).1; have hf2 := (Free.cells_of hb2).2; have hz2 := hb2.size; (try simp only [World.size_alloc, World.size_setCell, World.size_drew] at hz2); (try (have : w.heap.size < w2.heap.size := (by omega))); (try (have : w.heap.size < w2.heap.size + 1 := (by omega))); (try (have : w.heap.size < w2.heap.size + 1 + 1 := (by omega))); (try (have : w.heap.size + 1 < w2.heap.size := (by omega))); (try (have : w.heap.size + 1 < w2.heap.size + 1 := (by omega))); (try (have : w.heap.size + 1 < w2.heap.size + 1 + 1 := (by omega))); (try (have : w.heap.size + 1 + 1 < w2.heap.size := (by omega))); (try (have : w.heap.size + 1 + 1 < w2.heap.size + 1 := (by omega))); (try (have : w.heap.size + 1 + 1 < w2.heap.size + 1 + 1 := (by omega))); (try (have : w.heap.size + 1 + 1 + 1 < w2.heap.size := (by omega))); (try (have : w.heap.size + 1 + 1 + 1 < w2.heap.size + 1 := (by omega))); (try (have : w.heap.size + 1 + 1 + 1 < w2.heap.size + 1 + 1 := (by omega))); (try (have : w1.heap.size < w2.heap.size := (by omega))); (try (have : w1.heap.size < w2.heap.size + 1 := (by omega))); (try (have : w1.heap.size < w2.heap.size + 1 + 1 := (by omega))); (try (have : w1.heap.size + 1 < w2.heap.size := (by omega))); (try (have : w1.heap.size + 1 < w2.heap.size + 1 := (by omega))); (try (have : w1.heap.size + 1 < w2.heap.size + 1 + 1 := (by omega))); (try (have : w1.heap.size + 1 + 1 < w2.heap.size := (by omega))); (try (have : w1.heap.size + 1 + 1 < w2.heap.size + 1 := (by omega))); (try (have : w1.heap.size + 1 + 1 < w2.heap.size + 1 + 1 := (by omega))); (try (have : w1.heap.size + 1 + 1 + 1 < w2.heap.size := (by omega))); (try (have : w1.heap.size + 1 + 1 + 1 < w2.heap.size + 1 := (by omega))); (try (have : w1.heap.size + 1 + 1 + 1 < w2.heap.size + 1 + 1 := (by omega)))))
  refine Free.wp_region 11 #[0, 1, 0, 0, 15, 31, 63, 63, 0, 383, 1023] (by kernel_rfl) (by kernel_rfl) ?_
  simp only [List.take_succ_cons, List.take_zero]
  iterate 1
    refine Free.E.q (by rfl) ?_
    apply Exists.intro
    refine ⟨fun u w' hc hb => ?_, ?_⟩
    go_simp
    (try go_ints); (try simp only [Ob.ite_imx, Ob.ite_imn]); first | exact rfl | (go_simp; exact rfl) | (simp only [↓IntWalk.iteOmega]; (try go_simp); exact rfl)
    simp only [Act.put, List.setIfInBounds_toArray, List.set_cons_zero, List.set_cons_succ, List.nil_append, List.cons_append]
  refine Free.E.r (F := CopyF nm bd l) (by rfl) (CopyF.mono nm bd l) (fun u w' S hc hb hs => ?_) ?_
  · go_simp
    refine Free.relUpon_enter ?_
    exact HC.out _ _ _ (HO.out.below (by repeat' first | with_reducible exact Below.refl _ _ | with_reducible assumption | with_reducible refine Free.Grow.alloc ?_ _ | with_reducible refine Free.Grow.setCell ?_ (by first | omega | (simp; done) | (simp; omega)) _ | with_reducible refine Free.Grow.drew ?_ | with_reducible refine Free.Grow.trans ?_ (by assumption))) hs
  simp only [Act.put, List.setIfInBounds_toArray, List.set_cons_zero, List.set_cons_succ, List.nil_append, List.cons_append]
  iterate 2
    refine Free.E.q (by rfl) ?_
    apply Exists.intro
    refine ⟨fun u w' hc hb => ?_, ?_⟩
    go_simp
    (try go_ints); (try simp only [Ob.ite_imx, Ob.ite_imn]); first | exact rfl | (go_simp; exact rfl) | (simp only [↓IntWalk.iteOmega]; (try go_simp); exact rfl)
    simp only [Act.put, List.setIfInBounds_toArray, List.set_cons_zero, List.set_cons_succ, List.nil_append, List.cons_append]
  refine Free.E.qf (by rfl) ?_
  apply Exists.intro
  refine ⟨fun u w' S hc hb hF => ?_, ?_⟩
  · obtain ⟨gx, capx, hux, hgx, -, hOx⟩ := hF 1 _ rfl (by rfl)
    go_simp
    try simp only [hux]
    (go_at_call 37; exact HS.out _ _ _ hOx)
  simp only [Act.put, List.setIfInBounds_toArray, List.set_cons_zero, List.set_cons_succ, List.nil_append, List.cons_append]
  iterate 3
    refine Free.E.q (by rfl) ?_
    apply Exists.intro
    refine ⟨fun u w' hc hb => ?_, ?_⟩
    go_simp
    (try go_ints); (try simp only [Ob.ite_imx, Ob.ite_imn]); first | exact rfl | (go_simp; exact rfl) | (simp only [↓IntWalk.iteOmega]; (try go_simp); exact rfl)
    simp only [Act.put, List.setIfInBounds_toArray, List.set_cons_zero, List.set_cons_succ, List.nil_append, List.cons_append]
  refine Free.E.new (z := #[.int .i64 0, .int .i64 0]) (by rfl) rfl (by kernel_rfl) ?_
  simp only [Act.put, List.setIfInBounds_toArray, List.set_cons_zero, List.set_cons_succ, List.nil_append, List.cons_append]
  refine Free.E.init (k := 8) (by rfl) (by rfl) rfl rfl (by rfl) (by decide) (by rfl) (fun _ => rfl) (fun _ => rfl) (by kernel_rfl) rfl rfl (by rfl) ?_
  simp only [List.nil_append, List.cons_append]
  iterate 1
    refine Free.E.q (by rfl) ?_
    apply Exists.intro
    refine ⟨fun u w' hc hb => ?_, ?_⟩
    go_simp
    (try go_ints); (try simp only [Ob.ite_imx, Ob.ite_imn]); first | exact rfl | (go_simp; exact rfl) | (simp only [↓IntWalk.iteOmega]; (try go_simp); exact rfl)
    simp only [Act.put, List.setIfInBounds_toArray, List.set_cons_zero, List.set_cons_succ, List.nil_append, List.cons_append]
  refine Free.E.nil (fun u w3 S hF => ?_)
  have hb3 := hF.below
  obtain ⟨b3_8, hu3_8, hlo3_8, hhi3_8, -, hk3_8⟩ := hF.allocs 8 _ _ rfl
  simp only [Free.final, List.findSome?, reduceIte, Option.getD_some, Option.getD_none, Nat.reduceEqDiff, Value.cells] at hk3_8
  have hm3_1 := hF.facts 1 _ rfl
  clear hF
  have hc3 := (Free.cells_of hb3).1
  have hf3 := (Free.cells_of hb3).2
  have hz3 := hb3.size
  simp only [hu3_8]
  have hcb3_8 := Free.cell_of_blk hk3_8
  have hfb3_8 := Free.frozen_of_blk hk3_8
  clear hu3_8 hk3_8
  obtain ⟨g3_1, cap3_1, hu3_1, hg3_1, -, hO3_1⟩ := hm3_1
  simp only [hu3_1]
  have HO3_1 := Lib.hid hO3_1
  clear hu3_1 hO3_1
  try simp only [World.size_alloc, World.size_setCell, World.size_drew] at hz3 hlo3_8
  (try (have : w.heap.size < w3.heap.size := (by omega)))
  (try (have : w.heap.size < w3.heap.size + 1 := (by omega)))
  (try (have : w.heap.size < w3.heap.size + 1 + 1 := (by omega)))
  (try (have : w.heap.size + 1 < w3.heap.size := (by omega)))
  (try (have : w.heap.size + 1 < w3.heap.size + 1 := (by omega)))
  (try (have : w.heap.size + 1 < w3.heap.size + 1 + 1 := (by omega)))
  (try (have : w.heap.size + 1 + 1 < w3.heap.size := (by omega)))
  (try (have : w.heap.size + 1 + 1 < w3.heap.size + 1 := (by omega)))
  (try (have : w.heap.size + 1 + 1 < w3.heap.size + 1 + 1 := (by omega)))
  (try (have : w.heap.size + 1 + 1 + 1 < w3.heap.size := (by omega)))
  (try (have : w.heap.size + 1 + 1 + 1 < w3.heap.size + 1 := (by omega)))
  (try (have : w.heap.size + 1 + 1 + 1 < w3.heap.size + 1 + 1 := (by omega)))
  (try (have : w1.heap.size < w3.heap.size := (by omega)))
  (try (have : w1.heap.size < w3.heap.size + 1 := (by omega)))
  (try (have : w1.heap.size < w3.heap.size + 1 + 1 := (by omega)))
  (try (have : w1.heap.size + 1 < w3.heap.size := (by omega)))
  (try (have : w1.heap.size + 1 < w3.heap.size + 1 := (by omega)))
  (try (have : w1.heap.size + 1 < w3.heap.size + 1 + 1 := (by omega)))
  (try (have : w1.heap.size + 1 + 1 < w3.heap.size := (by omega)))
  (try (have : w1.heap.size + 1 + 1 < w3.heap.size + 1 := (by omega)))
  (try (have : w1.heap.size + 1 + 1 < w3.heap.size + 1 + 1 := (by omega)))
  (try (have : w1.heap.size + 1 + 1 + 1 < w3.heap.size := (by omega)))
  (try (have : w1.heap.size + 1 + 1 + 1 < w3.heap.size + 1 := (by omega)))
  (try (have : w1.heap.size + 1 + 1 + 1 < w3.heap.size + 1 + 1 := (by omega)))
  (try (have : w2.heap.size < w3.heap.size := (by omega)))
  (try (have : w2.heap.size < w3.heap.size + 1 := (by omega)))
  (try (have : w2.heap.size < w3.heap.size + 1 + 1 := (by omega)))
  (try (have : w2.heap.size + 1 < w3.heap.size := (by omega)))
  (try (have : w2.heap.size + 1 < w3.heap.size + 1 := (by omega)))
  (try (have : w2.heap.size + 1 < w3.heap.size + 1 + 1 := (by omega)))
  (try (have : w2.heap.size + 1 + 1 < w3.heap.size := (by omega)))
  (try (have : w2.heap.size + 1 + 1 < w3.heap.size + 1 := (by omega)))
  (try (have : w2.heap.size + 1 + 1 < w3.heap.size + 1 + 1 := (by omega)))
  (try (have : w2.heap.size + 1 + 1 + 1 < w3.heap.size := (by omega)))
  (try (have : w2.heap.size + 1 + 1 + 1 < w3.heap.size + 1 := (by omega)))
  (try (have : w2.heap.size + 1 + 1 + 1 < w3.heap.size + 1 + 1 := (by omega)))
  simp only [List.drop_succ_cons, List.drop_zero, List.drop_nil]
  go_wp2
  refine Free.wp_region 11 #[0, 1, 0, 0, 15, 31, 63, 63, 0, 383, 1023] (by kernel_rfl) (by kernel_rfl) ?_
  simp only [List.take_succ_cons, List.take_zero]
  iterate 1
    refine Free.E.q (by rfl) ?_
    apply Exists.intro
    refine ⟨fun u w' hc hb => ?_, ?_⟩
    go_simp
    (try go_ints); (try simp only [Ob.ite_imx, Ob.ite_imn]); first | exact rfl | (go_simp; exact rfl) | (simp only [↓IntWalk.iteOmega]; (try go_simp); exact rfl)
    simp only [Act.put, List.setIfInBounds_toArray, List.set_cons_zero, List.set_cons_succ, List.nil_append, List.cons_append]
  refine Free.E.r (F := CopyF nm bd l) (by rfl) (CopyF.mono nm bd l) (fun u w' S hc hb hs => ?_) ?_
  · go_simp
    refine Free.relUpon_enter ?_
    exact HC.out _ _ _ (HO.out.below (by repeat' first | with_reducible exact Below.refl _ _ | with_reducible assumption | with_reducible refine Free.Grow.alloc ?_ _ | with_reducible refine Free.Grow.setCell ?_ (by first | omega | (simp; done) | (simp; omega)) _ | with_reducible refine Free.Grow.drew ?_ | with_reducible refine Free.Grow.trans ?_ (by assumption))) hs
  simp only [Act.put, List.setIfInBounds_toArray, List.set_cons_zero, List.set_cons_succ, List.nil_append, List.cons_append]
  iterate 2
    refine Free.E.q (by rfl) ?_
    apply Exists.intro
    refine ⟨fun u w' hc hb => ?_, ?_⟩
    go_simp
    (try go_ints); (try simp only [Ob.ite_imx, Ob.ite_imn]); first | exact rfl | (go_simp; exact rfl) | (simp only [↓IntWalk.iteOmega]; (try go_simp); exact rfl)
    simp only [Act.put, List.setIfInBounds_toArray, List.set_cons_zero, List.set_cons_succ, List.nil_append, List.cons_append]
  refine Free.E.qf (by rfl) ?_
  apply Exists.intro
  refine ⟨fun u w' S hc hb hF => ?_, ?_⟩
  · obtain ⟨gx, capx, hux, hgx, -, hOx⟩ := hF 1 _ rfl (by rfl)
    go_simp
    try simp only [hux]
    (go_at_call 38; exact HD.out _ _ _ hOx)
  simp only [Act.put, List.setIfInBounds_toArray, List.set_cons_zero, List.set_cons_succ, List.nil_append, List.cons_append]
  iterate 3
    refine Free.E.q (by rfl) ?_
    apply Exists.intro
    refine ⟨fun u w' hc hb => ?_, ?_⟩
    go_simp
    (try go_ints); (try simp only [Ob.ite_imx, Ob.ite_imn]); first | exact rfl | (go_simp; exact rfl) | (simp only [↓IntWalk.iteOmega]; (try go_simp); exact rfl)
    simp only [Act.put, List.setIfInBounds_toArray, List.set_cons_zero, List.set_cons_succ, List.nil_append, List.cons_append]
  refine Free.E.new (z := #[.int .i64 0, .int .i64 0]) (by rfl) rfl (by kernel_rfl) ?_
  simp only [Act.put, List.setIfInBounds_toArray, List.set_cons_zero, List.set_cons_succ, List.nil_append, List.cons_append]
  refine Free.E.init (k := 8) (by rfl) (by rfl) rfl rfl (by rfl) (by decide) (by rfl) (fun _ => rfl) (fun _ => rfl) (by kernel_rfl) rfl rfl (by rfl) ?_
  simp only [List.nil_append, List.cons_append]
  iterate 1
    refine Free.E.q (by rfl) ?_
    apply Exists.intro
    refine ⟨fun u w' hc hb => ?_, ?_⟩
    go_simp
    (try go_ints); (try simp only [Ob.ite_imx, Ob.ite_imn]); first | exact rfl | (go_simp; exact rfl) | (simp only [↓IntWalk.iteOmega]; (try go_simp); exact rfl)
    simp only [Act.put, List.setIfInBounds_toArray, List.set_cons_zero, List.set_cons_succ, List.nil_append, List.cons_append]
  refine Free.E.nil (fun u w4 S hF => ?_)
  have hb4 := hF.below
  obtain ⟨b4_8, hu4_8, hlo4_8, hhi4_8, -, hk4_8⟩ := hF.allocs 8 _ _ rfl
  simp only [Free.final, List.findSome?, reduceIte, Option.getD_some, Option.getD_none, Nat.reduceEqDiff, Value.cells] at hk4_8
  have hm4_1 := hF.facts 1 _ rfl
  clear hF
  have hc4 := (Free.cells_of hb4).1
  have hf4 := (Free.cells_of hb4).2
  have hz4 := hb4.size
  simp only [hu4_8]
  have hcb4_8 := Free.cell_of_blk hk4_8
  have hfb4_8 := Free.frozen_of_blk hk4_8
  clear hu4_8 hk4_8
  obtain ⟨g4_1, cap4_1, hu4_1, hg4_1, -, hO4_1⟩ := hm4_1
  simp only [hu4_1]
  have HO4_1 := Lib.hid hO4_1
  clear hu4_1 hO4_1
  try simp only [World.size_alloc, World.size_setCell, World.size_drew] at hz4 hlo4_8
  (try (have : w.heap.size < w4.heap.size := (by omega)))
  (try (have : w.heap.size < w4.heap.size + 1 := (by omega)))
  (try (have : w.heap.size < w4.heap.size + 1 + 1 := (by omega)))
  (try (have : w.heap.size + 1 < w4.heap.size := (by omega)))
  (try (have : w.heap.size + 1 < w4.heap.size + 1 := (by omega)))
  (try (have : w.heap.size + 1 < w4.heap.size + 1 + 1 := (by omega)))
  (try (have : w.heap.size + 1 + 1 < w4.heap.size := (by omega)))
  (try (have : w.heap.size + 1 + 1 < w4.heap.size + 1 := (by omega)))
  (try (have : w.heap.size + 1 + 1 < w4.heap.size + 1 + 1 := (by omega)))
  (try (have : w.heap.size + 1 + 1 + 1 < w4.heap.size := (by omega)))
  (try (have : w.heap.size + 1 + 1 + 1 < w4.heap.size + 1 := (by omega)))
  (try (have : w.heap.size + 1 + 1 + 1 < w4.heap.size + 1 + 1 := (by omega)))
  (try (have : w1.heap.size < w4.heap.size := (by omega)))
  (try (have : w1.heap.size < w4.heap.size + 1 := (by omega)))
  (try (have : w1.heap.size < w4.heap.size + 1 + 1 := (by omega)))
  (try (have : w1.heap.size + 1 < w4.heap.size := (by omega)))
  (try (have : w1.heap.size + 1 < w4.heap.size + 1 := (by omega)))
  (try (have : w1.heap.size + 1 < w4.heap.size + 1 + 1 := (by omega)))
  (try (have : w1.heap.size + 1 + 1 < w4.heap.size := (by omega)))
  (try (have : w1.heap.size + 1 + 1 < w4.heap.size + 1 := (by omega)))
  (try (have : w1.heap.size + 1 + 1 < w4.heap.size + 1 + 1 := (by omega)))
  (try (have : w1.heap.size + 1 + 1 + 1 < w4.heap.size := (by omega)))
  (try (have : w1.heap.size + 1 + 1 + 1 < w4.heap.size + 1 := (by omega)))
  (try (have : w1.heap.size + 1 + 1 + 1 < w4.heap.size + 1 + 1 := (by omega)))
  (try (have : w2.heap.size < w4.heap.size := (by omega)))
  (try (have : w2.heap.size < w4.heap.size + 1 := (by omega)))
  (try (have : w2.heap.size < w4.heap.size + 1 + 1 := (by omega)))
  (try (have : w2.heap.size + 1 < w4.heap.size := (by omega)))
  (try (have : w2.heap.size + 1 < w4.heap.size + 1 := (by omega)))
  (try (have : w2.heap.size + 1 < w4.heap.size + 1 + 1 := (by omega)))
  (try (have : w2.heap.size + 1 + 1 < w4.heap.size := (by omega)))
  (try (have : w2.heap.size + 1 + 1 < w4.heap.size + 1 := (by omega)))
  (try (have : w2.heap.size + 1 + 1 < w4.heap.size + 1 + 1 := (by omega)))
  (try (have : w2.heap.size + 1 + 1 + 1 < w4.heap.size := (by omega)))
  (try (have : w2.heap.size + 1 + 1 + 1 < w4.heap.size + 1 := (by omega)))
  (try (have : w2.heap.size + 1 + 1 + 1 < w4.heap.size + 1 + 1 := (by omega)))
  (try (have : w3.heap.size < w4.heap.size := (by omega)))
  (try (have : w3.heap.size < w4.heap.size + 1 := (by omega)))
  (try (have : w3.heap.size < w4.heap.size + 1 + 1 := (by omega)))
  (try (have : w3.heap.size + 1 < w4.heap.size := (by omega)))
  (try (have : w3.heap.size + 1 < w4.heap.size + 1 := (by omega)))
  (try (have : w3.heap.size + 1 < w4.heap.size + 1 + 1 := (by omega)))
  (try (have : w3.heap.size + 1 + 1 < w4.heap.size := (by omega)))
  (try (have : w3.heap.size + 1 + 1 < w4.heap.size + 1 := (by omega)))
  (try (have : w3.heap.size + 1 + 1 < w4.heap.size + 1 + 1 := (by omega)))
  (try (have : w3.heap.size + 1 + 1 + 1 < w4.heap.size := (by omega)))
  (try (have : w3.heap.size + 1 + 1 + 1 < w4.heap.size + 1 := (by omega)))
  (try (have : w3.heap.size + 1 + 1 + 1 < w4.heap.size + 1 + 1 := (by omega)))
  (try (have : b3_8 < w4.heap.size := (by omega)))
  (try (have : b3_8 < w4.heap.size + 1 := (by omega)))
  (try (have : b3_8 < w4.heap.size + 1 + 1 := (by omega)))
  simp only [List.drop_succ_cons, List.drop_zero, List.drop_nil]
  go_wp2_with fail
  refine (HPE.out _ (HO.out.below (by repeat' first | with_reducible exact Below.refl _ _ | with_reducible assumption | with_reducible refine Free.Grow.alloc ?_ _ | with_reducible refine Free.Grow.setCell ?_ (by first | omega | (simp; done) | (simp; omega)) _ | with_reducible refine Free.Grow.drew ?_ | with_reducible refine Free.Grow.trans ?_ (by assumption)))).mono ?_
  rintro e w5 ⟨rfl, hb5⟩
  have hc5 := (Free.cells_of hb5).1; have hf5 := (Free.cells_of hb5).2; have hz5 := hb5.size; (try simp only [World.size_alloc, World.size_setCell, World.size_drew] at hz5)
  (try (have : w.heap.size < w5.heap.size := (by omega))); (try (have : w.heap.size < w5.heap.size + 1 := (by omega))); (try (have : w.heap.size < w5.heap.size + 1 + 1 := (by omega))); (try (have : w.heap.size + 1 < w5.heap.size := (by omega))); (try (have : w.heap.size + 1 < w5.heap.size + 1 := (by omega))); (try (have : w.heap.size + 1 < w5.heap.size + 1 + 1 := (by omega))); (try (have : w.heap.size + 1 + 1 < w5.heap.size := (by omega))); (try (have : w.heap.size + 1 + 1 < w5.heap.size + 1 := (by omega))); (try (have : w.heap.size + 1 + 1 < w5.heap.size + 1 + 1 := (by omega))); (try (have : w.heap.size + 1 + 1 + 1 < w5.heap.size := (by omega))); (try (have : w.heap.size + 1 + 1 + 1 < w5.heap.size + 1 := (by omega))); (try (have : w.heap.size + 1 + 1 + 1 < w5.heap.size + 1 + 1 := (by omega))); (try (have : w3.heap.size < w5.heap.size := (by omega))); (try (have : w3.heap.size < w5.heap.size + 1 := (by omega))); (try (have : w3.heap.size < w5.heap.size + 1 + 1 := (by omega))); (try (have : w3.heap.size + 1 < w5.heap.size := (by omega))); (try (have : w3.heap.size + 1 < w5.heap.size + 1 := (by omega))); (try (have : w3.heap.size + 1 < w5.heap.size + 1 + 1 := (by omega))); (try (have : w3.heap.size + 1 + 1 < w5.heap.size := (by omega))); (try (have : w3.heap.size + 1 + 1 < w5.heap.size + 1 := (by omega))); (try (have : w3.heap.size + 1 + 1 < w5.heap.size + 1 + 1 := (by omega))); (try (have : w3.heap.size + 1 + 1 + 1 < w5.heap.size := (by omega))); (try (have : w3.heap.size + 1 + 1 + 1 < w5.heap.size + 1 := (by omega))); (try (have : w3.heap.size + 1 + 1 + 1 < w5.heap.size + 1 + 1 := (by omega))); (try (have : b3_8 < w5.heap.size := (by omega))); (try (have : b3_8 < w5.heap.size + 1 := (by omega))); (try (have : b3_8 < w5.heap.size + 1 + 1 := (by omega))); (try (have : b4_8 < w5.heap.size := (by omega))); (try (have : b4_8 < w5.heap.size + 1 := (by omega))); (try (have : b4_8 < w5.heap.size + 1 + 1 := (by omega)))
  go_wp2
  refine Free.wp_region 6 #[0, 0, 3, 0, 15, 31] (by kernel_rfl) (by kernel_rfl) ?_
  simp only [List.take_succ_cons, List.take_zero]
  iterate 6
    refine Free.E.q (by rfl) ?_
    apply Exists.intro
    refine ⟨fun u w' hc hb => ?_, ?_⟩
    go_simp
    (try go_ints); (try simp only [Ob.ite_imx, Ob.ite_imn]); first | exact rfl | (go_simp; exact rfl) | ((go_at_call 29; with_reducible exact HRN.out _ (HM.out.below (B := w.heap.size) (by repeat' first | with_reducible exact Below.refl _ _ | with_reducible assumption | with_reducible refine Free.Grow.alloc ?_ _ | with_reducible refine Free.Grow.setCell ?_ (by first | omega | (simp; done) | (simp; omega)) _ | with_reducible refine Free.Grow.drew ?_ | with_reducible refine Free.Grow.trans ?_ (by assumption)) hbw) (by have := hb.size; omega))) | ((go_at_call 40; with_reducible exact hSq.out _)) | (simp only [↓IntWalk.iteOmega]; (try go_simp); exact rfl)
    simp only [Act.put, List.setIfInBounds_toArray, List.set_cons_zero, List.set_cons_succ, List.nil_append, List.cons_append]
  refine Free.E.nil (fun u w6 S hF => ?_)
  have hb6 := hF.below
  clear hF
  have hc6 := (Free.cells_of hb6).1
  have hf6 := (Free.cells_of hb6).2
  have hz6 := hb6.size
  try simp only [World.size_alloc, World.size_setCell, World.size_drew] at hz6
  (try (have : w.heap.size < w6.heap.size := (by omega)))
  (try (have : w.heap.size < w6.heap.size + 1 := (by omega)))
  (try (have : w.heap.size < w6.heap.size + 1 + 1 := (by omega)))
  (try (have : w.heap.size + 1 < w6.heap.size := (by omega)))
  (try (have : w.heap.size + 1 < w6.heap.size + 1 := (by omega)))
  (try (have : w.heap.size + 1 < w6.heap.size + 1 + 1 := (by omega)))
  (try (have : w.heap.size + 1 + 1 < w6.heap.size := (by omega)))
  (try (have : w.heap.size + 1 + 1 < w6.heap.size + 1 := (by omega)))
  (try (have : w.heap.size + 1 + 1 < w6.heap.size + 1 + 1 := (by omega)))
  (try (have : w.heap.size + 1 + 1 + 1 < w6.heap.size := (by omega)))
  (try (have : w.heap.size + 1 + 1 + 1 < w6.heap.size + 1 := (by omega)))
  (try (have : w.heap.size + 1 + 1 + 1 < w6.heap.size + 1 + 1 := (by omega)))
  (try (have : w3.heap.size < w6.heap.size := (by omega)))
  (try (have : w3.heap.size < w6.heap.size + 1 := (by omega)))
  (try (have : w3.heap.size < w6.heap.size + 1 + 1 := (by omega)))
  (try (have : w3.heap.size + 1 < w6.heap.size := (by omega)))
  (try (have : w3.heap.size + 1 < w6.heap.size + 1 := (by omega)))
  (try (have : w3.heap.size + 1 < w6.heap.size + 1 + 1 := (by omega)))
  (try (have : w3.heap.size + 1 + 1 < w6.heap.size := (by omega)))
  (try (have : w3.heap.size + 1 + 1 < w6.heap.size + 1 := (by omega)))
  (try (have : w3.heap.size + 1 + 1 < w6.heap.size + 1 + 1 := (by omega)))
  (try (have : w3.heap.size + 1 + 1 + 1 < w6.heap.size := (by omega)))
  (try (have : w3.heap.size + 1 + 1 + 1 < w6.heap.size + 1 := (by omega)))
  (try (have : w3.heap.size + 1 + 1 + 1 < w6.heap.size + 1 + 1 := (by omega)))
  (try (have : w4.heap.size < w6.heap.size := (by omega)))
  (try (have : w4.heap.size < w6.heap.size + 1 := (by omega)))
  (try (have : w4.heap.size < w6.heap.size + 1 + 1 := (by omega)))
  (try (have : w4.heap.size + 1 < w6.heap.size := (by omega)))
  (try (have : w4.heap.size + 1 < w6.heap.size + 1 := (by omega)))
  (try (have : w4.heap.size + 1 < w6.heap.size + 1 + 1 := (by omega)))
  (try (have : w4.heap.size + 1 + 1 < w6.heap.size := (by omega)))
  (try (have : w4.heap.size + 1 + 1 < w6.heap.size + 1 := (by omega)))
  (try (have : w4.heap.size + 1 + 1 < w6.heap.size + 1 + 1 := (by omega)))
  (try (have : w4.heap.size + 1 + 1 + 1 < w6.heap.size := (by omega)))
  (try (have : w4.heap.size + 1 + 1 + 1 < w6.heap.size + 1 := (by omega)))
  (try (have : w4.heap.size + 1 + 1 + 1 < w6.heap.size + 1 + 1 := (by omega)))
  (try (have : w5.heap.size < w6.heap.size := (by omega)))
  (try (have : w5.heap.size < w6.heap.size + 1 := (by omega)))
  (try (have : w5.heap.size < w6.heap.size + 1 + 1 := (by omega)))
  (try (have : w5.heap.size + 1 < w6.heap.size := (by omega)))
  (try (have : w5.heap.size + 1 < w6.heap.size + 1 := (by omega)))
  (try (have : w5.heap.size + 1 < w6.heap.size + 1 + 1 := (by omega)))
  (try (have : w5.heap.size + 1 + 1 < w6.heap.size := (by omega)))
  (try (have : w5.heap.size + 1 + 1 < w6.heap.size + 1 := (by omega)))
  (try (have : w5.heap.size + 1 + 1 < w6.heap.size + 1 + 1 := (by omega)))
  (try (have : w5.heap.size + 1 + 1 + 1 < w6.heap.size := (by omega)))
  (try (have : w5.heap.size + 1 + 1 + 1 < w6.heap.size + 1 := (by omega)))
  (try (have : w5.heap.size + 1 + 1 + 1 < w6.heap.size + 1 + 1 := (by omega)))
  (try (have : b3_8 < w6.heap.size := (by omega)))
  (try (have : b3_8 < w6.heap.size + 1 := (by omega)))
  (try (have : b3_8 < w6.heap.size + 1 + 1 := (by omega)))
  (try (have : b4_8 < w6.heap.size := (by omega)))
  (try (have : b4_8 < w6.heap.size + 1 := (by omega)))
  (try (have : b4_8 < w6.heap.size + 1 + 1 := (by omega)))
  simp only [List.drop_succ_cons, List.drop_zero, List.drop_nil]
  go_wp2
  have t1 := T1.out
  have t2 := T2.out
  refine Free.wp_region 48 #[0, 1, 3, 7, 7, 7, 55, 7, 247, 511, 1023, 2047, 4095, 8191, 16383, 32767, 65535, 65535, 196607, 524287, 1048575, 2097151, 4194303, 4194303, 12582911, 4194303, 37748735, 134217727, 268435455, 536870911, 1073741823, 2147483647, 1073741823, 5368709119, 17179869183, 1073741823, 68719476735, 137438953471, 274877906943, 549755813887, 549755813887, 1649267441663, 549755813887, 4947802324991, 17042430230527, 35184372088831, 70368744177663, 140737488355327] (by kernel_rfl) (by kernel_rfl) ?_
  simp only [List.take_succ_cons, List.take_zero]
  iterate 3
    refine Free.E.q (by rfl) ?_
    apply Exists.intro
    refine ⟨fun u w' hc hb => ?_, ?_⟩
    go_simp
    (try go_ints); (try simp only [Ob.ite_imx, Ob.ite_imn]); first | exact rfl | (go_simp; exact rfl) | ((go_at_call 30; with_reducible exact HRB.out _ (HM.out.below (B := w.heap.size) (by repeat' first | with_reducible exact Below.refl _ _ | with_reducible assumption | with_reducible refine Free.Grow.alloc ?_ _ | with_reducible refine Free.Grow.setCell ?_ (by first | omega | (simp; done) | (simp; omega)) _ | with_reducible refine Free.Grow.drew ?_ | with_reducible refine Free.Grow.trans ?_ (by assumption)) hbw) (by have := hb.size; omega))) | ((go_at_call 41; with_reducible exact HRS.out _)) | ((go_at_call 42; with_reducible exact HRD.out _)) | ((go_at_call 21; with_reducible exact Free.Calls.grow (HI0.out _))) | (simp only [↓IntWalk.iteOmega]; (try go_simp); exact rfl)
    simp only [Act.put, List.setIfInBounds_toArray, List.set_cons_zero, List.set_cons_succ, List.nil_append, List.cons_append]
  iterate 7
    first
      | (refine Free.E.no ?_ ?_
         (intro _; rfl)
         simp only [Act.put, List.setIfInBounds_toArray, List.set_cons_zero, List.set_cons_succ, List.nil_append, List.cons_append])
      | (refine Free.E.qy ?_ ?_
         (intro _; rfl)
         apply Exists.intro
         refine ⟨fun u w' hc hb => ?_, ?_⟩
         go_simp
         (try go_ints); (try simp only [Ob.ite_imx, Ob.ite_imn]); first | exact rfl | (go_simp; exact rfl) | ((go_at_call 30; with_reducible exact HRB.out _ (HM.out.below (B := w.heap.size) (by repeat' first | with_reducible exact Below.refl _ _ | with_reducible assumption | with_reducible refine Free.Grow.alloc ?_ _ | with_reducible refine Free.Grow.setCell ?_ (by first | omega | (simp; done) | (simp; omega)) _ | with_reducible refine Free.Grow.drew ?_ | with_reducible refine Free.Grow.trans ?_ (by assumption)) hbw) (by have := hb.size; omega))) | ((go_at_call 41; with_reducible exact HRS.out _)) | ((go_at_call 42; with_reducible exact HRD.out _)) | ((go_at_call 21; with_reducible exact Free.Calls.grow (HI0.out _))) | (simp only [↓IntWalk.iteOmega]; (try go_simp); exact rfl)
         simp only [Act.put, List.setIfInBounds_toArray, List.set_cons_zero, List.set_cons_succ, List.nil_append, List.cons_append])
  iterate 2
    refine Free.E.q (by rfl) ?_
    apply Exists.intro
    refine ⟨fun u w' hc hb => ?_, ?_⟩
    go_simp
    (try go_ints); (try simp only [Ob.ite_imx, Ob.ite_imn]); first | exact rfl | (go_simp; exact rfl) | ((go_at_call 30; with_reducible exact HRB.out _ (HM.out.below (B := w.heap.size) (by repeat' first | with_reducible exact Below.refl _ _ | with_reducible assumption | with_reducible refine Free.Grow.alloc ?_ _ | with_reducible refine Free.Grow.setCell ?_ (by first | omega | (simp; done) | (simp; omega)) _ | with_reducible refine Free.Grow.drew ?_ | with_reducible refine Free.Grow.trans ?_ (by assumption)) hbw) (by have := hb.size; omega))) | ((go_at_call 41; with_reducible exact HRS.out _)) | ((go_at_call 42; with_reducible exact HRD.out _)) | ((go_at_call 21; with_reducible exact Free.Calls.grow (HI0.out _))) | (simp only [↓IntWalk.iteOmega]; (try go_simp); exact rfl)
    simp only [Act.put, List.setIfInBounds_toArray, List.set_cons_zero, List.set_cons_succ, List.nil_append, List.cons_append]
  iterate 2
    first
      | (refine Free.E.no ?_ ?_
         (intro _; rfl)
         simp only [Act.put, List.setIfInBounds_toArray, List.set_cons_zero, List.set_cons_succ, List.nil_append, List.cons_append])
      | (refine Free.E.qy ?_ ?_
         (intro _; rfl)
         apply Exists.intro
         refine ⟨fun u w' hc hb => ?_, ?_⟩
         go_simp
         (try go_ints); (try simp only [Ob.ite_imx, Ob.ite_imn]); first | exact rfl | (go_simp; exact rfl) | ((go_at_call 30; with_reducible exact HRB.out _ (HM.out.below (B := w.heap.size) (by repeat' first | with_reducible exact Below.refl _ _ | with_reducible assumption | with_reducible refine Free.Grow.alloc ?_ _ | with_reducible refine Free.Grow.setCell ?_ (by first | omega | (simp; done) | (simp; omega)) _ | with_reducible refine Free.Grow.drew ?_ | with_reducible refine Free.Grow.trans ?_ (by assumption)) hbw) (by have := hb.size; omega))) | ((go_at_call 41; with_reducible exact HRS.out _)) | ((go_at_call 42; with_reducible exact HRD.out _)) | ((go_at_call 21; with_reducible exact Free.Calls.grow (HI0.out _))) | (simp only [↓IntWalk.iteOmega]; (try go_simp); exact rfl)
         simp only [Act.put, List.setIfInBounds_toArray, List.set_cons_zero, List.set_cons_succ, List.nil_append, List.cons_append])
  iterate 2
    refine Free.E.q (by rfl) ?_
    apply Exists.intro
    refine ⟨fun u w' hc hb => ?_, ?_⟩
    go_simp
    (try go_ints); (try simp only [Ob.ite_imx, Ob.ite_imn]); first | exact rfl | (go_simp; exact rfl) | ((go_at_call 30; with_reducible exact HRB.out _ (HM.out.below (B := w.heap.size) (by repeat' first | with_reducible exact Below.refl _ _ | with_reducible assumption | with_reducible refine Free.Grow.alloc ?_ _ | with_reducible refine Free.Grow.setCell ?_ (by first | omega | (simp; done) | (simp; omega)) _ | with_reducible refine Free.Grow.drew ?_ | with_reducible refine Free.Grow.trans ?_ (by assumption)) hbw) (by have := hb.size; omega))) | ((go_at_call 41; with_reducible exact HRS.out _)) | ((go_at_call 42; with_reducible exact HRD.out _)) | ((go_at_call 21; with_reducible exact Free.Calls.grow (HI0.out _))) | (simp only [↓IntWalk.iteOmega]; (try go_simp); exact rfl)
    simp only [Act.put, List.setIfInBounds_toArray, List.set_cons_zero, List.set_cons_succ, List.nil_append, List.cons_append]
  iterate 4
    first
      | (refine Free.E.no ?_ ?_
         (intro _; rfl)
         simp only [Act.put, List.setIfInBounds_toArray, List.set_cons_zero, List.set_cons_succ, List.nil_append, List.cons_append])
      | (refine Free.E.qy ?_ ?_
         (intro _; rfl)
         apply Exists.intro
         refine ⟨fun u w' hc hb => ?_, ?_⟩
         go_simp
         (try go_ints); (try simp only [Ob.ite_imx, Ob.ite_imn]); first | exact rfl | (go_simp; exact rfl) | ((go_at_call 30; with_reducible exact HRB.out _ (HM.out.below (B := w.heap.size) (by repeat' first | with_reducible exact Below.refl _ _ | with_reducible assumption | with_reducible refine Free.Grow.alloc ?_ _ | with_reducible refine Free.Grow.setCell ?_ (by first | omega | (simp; done) | (simp; omega)) _ | with_reducible refine Free.Grow.drew ?_ | with_reducible refine Free.Grow.trans ?_ (by assumption)) hbw) (by have := hb.size; omega))) | ((go_at_call 41; with_reducible exact HRS.out _)) | ((go_at_call 42; with_reducible exact HRD.out _)) | ((go_at_call 21; with_reducible exact Free.Calls.grow (HI0.out _))) | (simp only [↓IntWalk.iteOmega]; (try go_simp); exact rfl)
         simp only [Act.put, List.setIfInBounds_toArray, List.set_cons_zero, List.set_cons_succ, List.nil_append, List.cons_append])
  iterate 2
    refine Free.E.q (by rfl) ?_
    apply Exists.intro
    refine ⟨fun u w' hc hb => ?_, ?_⟩
    go_simp
    (try go_ints); (try simp only [Ob.ite_imx, Ob.ite_imn]); first | exact rfl | (go_simp; exact rfl) | ((go_at_call 30; with_reducible exact HRB.out _ (HM.out.below (B := w.heap.size) (by repeat' first | with_reducible exact Below.refl _ _ | with_reducible assumption | with_reducible refine Free.Grow.alloc ?_ _ | with_reducible refine Free.Grow.setCell ?_ (by first | omega | (simp; done) | (simp; omega)) _ | with_reducible refine Free.Grow.drew ?_ | with_reducible refine Free.Grow.trans ?_ (by assumption)) hbw) (by have := hb.size; omega))) | ((go_at_call 41; with_reducible exact HRS.out _)) | ((go_at_call 42; with_reducible exact HRD.out _)) | ((go_at_call 21; with_reducible exact Free.Calls.grow (HI0.out _))) | (simp only [↓IntWalk.iteOmega]; (try go_simp); exact rfl)
    simp only [Act.put, List.setIfInBounds_toArray, List.set_cons_zero, List.set_cons_succ, List.nil_append, List.cons_append]
  iterate 6
    first
      | (refine Free.E.no ?_ ?_
         (intro _; rfl)
         simp only [Act.put, List.setIfInBounds_toArray, List.set_cons_zero, List.set_cons_succ, List.nil_append, List.cons_append])
      | (refine Free.E.qy ?_ ?_
         (intro _; rfl)
         apply Exists.intro
         refine ⟨fun u w' hc hb => ?_, ?_⟩
         go_simp
         (try go_ints); (try simp only [Ob.ite_imx, Ob.ite_imn]); first | exact rfl | (go_simp; exact rfl) | ((go_at_call 30; with_reducible exact HRB.out _ (HM.out.below (B := w.heap.size) (by repeat' first | with_reducible exact Below.refl _ _ | with_reducible assumption | with_reducible refine Free.Grow.alloc ?_ _ | with_reducible refine Free.Grow.setCell ?_ (by first | omega | (simp; done) | (simp; omega)) _ | with_reducible refine Free.Grow.drew ?_ | with_reducible refine Free.Grow.trans ?_ (by assumption)) hbw) (by have := hb.size; omega))) | ((go_at_call 41; with_reducible exact HRS.out _)) | ((go_at_call 42; with_reducible exact HRD.out _)) | ((go_at_call 21; with_reducible exact Free.Calls.grow (HI0.out _))) | (simp only [↓IntWalk.iteOmega]; (try go_simp); exact rfl)
         simp only [Act.put, List.setIfInBounds_toArray, List.set_cons_zero, List.set_cons_succ, List.nil_append, List.cons_append])
  iterate 2
    refine Free.E.q (by rfl) ?_
    apply Exists.intro
    refine ⟨fun u w' hc hb => ?_, ?_⟩
    go_simp
    (try go_ints); (try simp only [Ob.ite_imx, Ob.ite_imn]); first | exact rfl | (go_simp; exact rfl) | ((go_at_call 30; with_reducible exact HRB.out _ (HM.out.below (B := w.heap.size) (by repeat' first | with_reducible exact Below.refl _ _ | with_reducible assumption | with_reducible refine Free.Grow.alloc ?_ _ | with_reducible refine Free.Grow.setCell ?_ (by first | omega | (simp; done) | (simp; omega)) _ | with_reducible refine Free.Grow.drew ?_ | with_reducible refine Free.Grow.trans ?_ (by assumption)) hbw) (by have := hb.size; omega))) | ((go_at_call 41; with_reducible exact HRS.out _)) | ((go_at_call 42; with_reducible exact HRD.out _)) | ((go_at_call 21; with_reducible exact Free.Calls.grow (HI0.out _))) | (simp only [↓IntWalk.iteOmega]; (try go_simp); exact rfl)
    simp only [Act.put, List.setIfInBounds_toArray, List.set_cons_zero, List.set_cons_succ, List.nil_append, List.cons_append]
  iterate 7
    first
      | (refine Free.E.no ?_ ?_
         (intro _; rfl)
         simp only [Act.put, List.setIfInBounds_toArray, List.set_cons_zero, List.set_cons_succ, List.nil_append, List.cons_append])
      | (refine Free.E.qy ?_ ?_
         (intro _; rfl)
         apply Exists.intro
         refine ⟨fun u w' hc hb => ?_, ?_⟩
         go_simp
         (try go_ints); (try simp only [Ob.ite_imx, Ob.ite_imn]); first | exact rfl | (go_simp; exact rfl) | ((go_at_call 30; with_reducible exact HRB.out _ (HM.out.below (B := w.heap.size) (by repeat' first | with_reducible exact Below.refl _ _ | with_reducible assumption | with_reducible refine Free.Grow.alloc ?_ _ | with_reducible refine Free.Grow.setCell ?_ (by first | omega | (simp; done) | (simp; omega)) _ | with_reducible refine Free.Grow.drew ?_ | with_reducible refine Free.Grow.trans ?_ (by assumption)) hbw) (by have := hb.size; omega))) | ((go_at_call 41; with_reducible exact HRS.out _)) | ((go_at_call 42; with_reducible exact HRD.out _)) | ((go_at_call 21; with_reducible exact Free.Calls.grow (HI0.out _))) | (simp only [↓IntWalk.iteOmega]; (try go_simp); exact rfl)
         simp only [Act.put, List.setIfInBounds_toArray, List.set_cons_zero, List.set_cons_succ, List.nil_append, List.cons_append])
  iterate 2
    refine Free.E.q (by rfl) ?_
    apply Exists.intro
    refine ⟨fun u w' hc hb => ?_, ?_⟩
    go_simp
    (try go_ints); (try simp only [Ob.ite_imx, Ob.ite_imn]); first | exact rfl | (go_simp; exact rfl) | ((go_at_call 30; with_reducible exact HRB.out _ (HM.out.below (B := w.heap.size) (by repeat' first | with_reducible exact Below.refl _ _ | with_reducible assumption | with_reducible refine Free.Grow.alloc ?_ _ | with_reducible refine Free.Grow.setCell ?_ (by first | omega | (simp; done) | (simp; omega)) _ | with_reducible refine Free.Grow.drew ?_ | with_reducible refine Free.Grow.trans ?_ (by assumption)) hbw) (by have := hb.size; omega))) | ((go_at_call 41; with_reducible exact HRS.out _)) | ((go_at_call 42; with_reducible exact HRD.out _)) | ((go_at_call 21; with_reducible exact Free.Calls.grow (HI0.out _))) | (simp only [↓IntWalk.iteOmega]; (try go_simp); exact rfl)
    simp only [Act.put, List.setIfInBounds_toArray, List.set_cons_zero, List.set_cons_succ, List.nil_append, List.cons_append]
  iterate 7
    first
      | (refine Free.E.no ?_ ?_
         (intro _; rfl)
         simp only [Act.put, List.setIfInBounds_toArray, List.set_cons_zero, List.set_cons_succ, List.nil_append, List.cons_append])
      | (refine Free.E.qy ?_ ?_
         (intro _; rfl)
         apply Exists.intro
         refine ⟨fun u w' hc hb => ?_, ?_⟩
         go_simp
         (try go_ints); (try simp only [Ob.ite_imx, Ob.ite_imn]); first | exact rfl | (go_simp; exact rfl) | ((go_at_call 30; with_reducible exact HRB.out _ (HM.out.below (B := w.heap.size) (by repeat' first | with_reducible exact Below.refl _ _ | with_reducible assumption | with_reducible refine Free.Grow.alloc ?_ _ | with_reducible refine Free.Grow.setCell ?_ (by first | omega | (simp; done) | (simp; omega)) _ | with_reducible refine Free.Grow.drew ?_ | with_reducible refine Free.Grow.trans ?_ (by assumption)) hbw) (by have := hb.size; omega))) | ((go_at_call 41; with_reducible exact HRS.out _)) | ((go_at_call 42; with_reducible exact HRD.out _)) | ((go_at_call 21; with_reducible exact Free.Calls.grow (HI0.out _))) | (simp only [↓IntWalk.iteOmega]; (try go_simp); exact rfl)
         simp only [Act.put, List.setIfInBounds_toArray, List.set_cons_zero, List.set_cons_succ, List.nil_append, List.cons_append])
  iterate 2
    refine Free.E.q (by rfl) ?_
    apply Exists.intro
    refine ⟨fun u w' hc hb => ?_, ?_⟩
    go_simp
    (try go_ints); (try simp only [Ob.ite_imx, Ob.ite_imn]); first | exact rfl | (go_simp; exact rfl) | ((go_at_call 30; with_reducible exact HRB.out _ (HM.out.below (B := w.heap.size) (by repeat' first | with_reducible exact Below.refl _ _ | with_reducible assumption | with_reducible refine Free.Grow.alloc ?_ _ | with_reducible refine Free.Grow.setCell ?_ (by first | omega | (simp; done) | (simp; omega)) _ | with_reducible refine Free.Grow.drew ?_ | with_reducible refine Free.Grow.trans ?_ (by assumption)) hbw) (by have := hb.size; omega))) | ((go_at_call 41; with_reducible exact HRS.out _)) | ((go_at_call 42; with_reducible exact HRD.out _)) | ((go_at_call 21; with_reducible exact Free.Calls.grow (HI0.out _))) | (simp only [↓IntWalk.iteOmega]; (try go_simp); exact rfl)
    simp only [Act.put, List.setIfInBounds_toArray, List.set_cons_zero, List.set_cons_succ, List.nil_append, List.cons_append]
  refine Free.E.nil (fun u w7 S hF => ?_)
  have hb7 := hF.below
  clear hF
  have hc7 := (Free.cells_of hb7).1
  have hf7 := (Free.cells_of hb7).2
  have hz7 := hb7.size
  try simp only [World.size_alloc, World.size_setCell, World.size_drew] at hz7
  (try (have : w.heap.size < w7.heap.size := (by omega)))
  (try (have : w.heap.size < w7.heap.size + 1 := (by omega)))
  (try (have : w.heap.size < w7.heap.size + 1 + 1 := (by omega)))
  (try (have : w.heap.size + 1 < w7.heap.size := (by omega)))
  (try (have : w.heap.size + 1 < w7.heap.size + 1 := (by omega)))
  (try (have : w.heap.size + 1 < w7.heap.size + 1 + 1 := (by omega)))
  (try (have : w.heap.size + 1 + 1 < w7.heap.size := (by omega)))
  (try (have : w.heap.size + 1 + 1 < w7.heap.size + 1 := (by omega)))
  (try (have : w.heap.size + 1 + 1 < w7.heap.size + 1 + 1 := (by omega)))
  (try (have : w.heap.size + 1 + 1 + 1 < w7.heap.size := (by omega)))
  (try (have : w.heap.size + 1 + 1 + 1 < w7.heap.size + 1 := (by omega)))
  (try (have : w.heap.size + 1 + 1 + 1 < w7.heap.size + 1 + 1 := (by omega)))
  (try (have : w3.heap.size < w7.heap.size := (by omega)))
  (try (have : w3.heap.size < w7.heap.size + 1 := (by omega)))
  (try (have : w3.heap.size < w7.heap.size + 1 + 1 := (by omega)))
  (try (have : w3.heap.size + 1 < w7.heap.size := (by omega)))
  (try (have : w3.heap.size + 1 < w7.heap.size + 1 := (by omega)))
  (try (have : w3.heap.size + 1 < w7.heap.size + 1 + 1 := (by omega)))
  (try (have : w3.heap.size + 1 + 1 < w7.heap.size := (by omega)))
  (try (have : w3.heap.size + 1 + 1 < w7.heap.size + 1 := (by omega)))
  (try (have : w3.heap.size + 1 + 1 < w7.heap.size + 1 + 1 := (by omega)))
  (try (have : w3.heap.size + 1 + 1 + 1 < w7.heap.size := (by omega)))
  (try (have : w3.heap.size + 1 + 1 + 1 < w7.heap.size + 1 := (by omega)))
  (try (have : w3.heap.size + 1 + 1 + 1 < w7.heap.size + 1 + 1 := (by omega)))
  (try (have : w4.heap.size < w7.heap.size := (by omega)))
  (try (have : w4.heap.size < w7.heap.size + 1 := (by omega)))
  (try (have : w4.heap.size < w7.heap.size + 1 + 1 := (by omega)))
  (try (have : w4.heap.size + 1 < w7.heap.size := (by omega)))
  (try (have : w4.heap.size + 1 < w7.heap.size + 1 := (by omega)))
  (try (have : w4.heap.size + 1 < w7.heap.size + 1 + 1 := (by omega)))
  (try (have : w4.heap.size + 1 + 1 < w7.heap.size := (by omega)))
  (try (have : w4.heap.size + 1 + 1 < w7.heap.size + 1 := (by omega)))
  (try (have : w4.heap.size + 1 + 1 < w7.heap.size + 1 + 1 := (by omega)))
  (try (have : w4.heap.size + 1 + 1 + 1 < w7.heap.size := (by omega)))
  (try (have : w4.heap.size + 1 + 1 + 1 < w7.heap.size + 1 := (by omega)))
  (try (have : w4.heap.size + 1 + 1 + 1 < w7.heap.size + 1 + 1 := (by omega)))
  (try (have : w5.heap.size < w7.heap.size := (by omega)))
  (try (have : w5.heap.size < w7.heap.size + 1 := (by omega)))
  (try (have : w5.heap.size < w7.heap.size + 1 + 1 := (by omega)))
  (try (have : w5.heap.size + 1 < w7.heap.size := (by omega)))
  (try (have : w5.heap.size + 1 < w7.heap.size + 1 := (by omega)))
  (try (have : w5.heap.size + 1 < w7.heap.size + 1 + 1 := (by omega)))
  (try (have : w5.heap.size + 1 + 1 < w7.heap.size := (by omega)))
  (try (have : w5.heap.size + 1 + 1 < w7.heap.size + 1 := (by omega)))
  (try (have : w5.heap.size + 1 + 1 < w7.heap.size + 1 + 1 := (by omega)))
  (try (have : w5.heap.size + 1 + 1 + 1 < w7.heap.size := (by omega)))
  (try (have : w5.heap.size + 1 + 1 + 1 < w7.heap.size + 1 := (by omega)))
  (try (have : w5.heap.size + 1 + 1 + 1 < w7.heap.size + 1 + 1 := (by omega)))
  (try (have : w6.heap.size < w7.heap.size := (by omega)))
  (try (have : w6.heap.size < w7.heap.size + 1 := (by omega)))
  (try (have : w6.heap.size < w7.heap.size + 1 + 1 := (by omega)))
  (try (have : w6.heap.size + 1 < w7.heap.size := (by omega)))
  (try (have : w6.heap.size + 1 < w7.heap.size + 1 := (by omega)))
  (try (have : w6.heap.size + 1 < w7.heap.size + 1 + 1 := (by omega)))
  (try (have : w6.heap.size + 1 + 1 < w7.heap.size := (by omega)))
  (try (have : w6.heap.size + 1 + 1 < w7.heap.size + 1 := (by omega)))
  (try (have : w6.heap.size + 1 + 1 < w7.heap.size + 1 + 1 := (by omega)))
  (try (have : w6.heap.size + 1 + 1 + 1 < w7.heap.size := (by omega)))
  (try (have : w6.heap.size + 1 + 1 + 1 < w7.heap.size + 1 := (by omega)))
  (try (have : w6.heap.size + 1 + 1 + 1 < w7.heap.size + 1 + 1 := (by omega)))
  (try (have : b3_8 < w7.heap.size := (by omega)))
  (try (have : b3_8 < w7.heap.size + 1 := (by omega)))
  (try (have : b3_8 < w7.heap.size + 1 + 1 := (by omega)))
  (try (have : b4_8 < w7.heap.size := (by omega)))
  (try (have : b4_8 < w7.heap.size + 1 := (by omega)))
  (try (have : b4_8 < w7.heap.size + 1 + 1 := (by omega)))
  simp only [List.drop_succ_cons, List.drop_zero, List.drop_nil]
  go_wp2
  first | (go_ret; exact HR.out _ (by repeat' first | with_reducible exact Below.refl _ _ | with_reducible assumption | with_reducible refine Free.Grow.alloc ?_ _ | with_reducible refine Free.Grow.setCell ?_ (by first | omega | (simp; done) | (simp; omega)) _ | with_reducible refine Free.Grow.drew ?_ | with_reducible refine Free.Grow.trans ?_ (by assumption))) | exact HR.out _ (by repeat' first | with_reducible exact Below.refl _ _ | with_reducible assumption | with_reducible refine Free.Grow.alloc ?_ _ | with_reducible refine Free.Grow.setCell ?_ (by first | omega | (simp; done) | (simp; omega)) _ | with_reducible refine Free.Grow.drew ?_ | with_reducible refine Free.Grow.trans ?_ (by assumption))

theorem walk (nm : ByteArray) (bd t x y z : Int) (a : Option Addr) (l : List St) (cap : Nat) (w : World) (hnm : nm.size ≤ maxLen) (hcap : l.length ≤ cap) (hcm : cap ≤ maxLen) (hS : SlSts w a l) :
    Calls Try.prog 8 #[obV nm bd a l.length cap, .int .i64 t, v3 x y z] w fun e w' => e = .returned (.bool true) ∧ Below w.heap.size w w' := by
  simp only [maxLen] at hnm hcm
  cases hf : fewB nm.size l.length with
  | false => exact walk_few_no nm bd t x y z a l.length cap w (by omega) (by omega) hf
  | true =>
    have hO : OrbIn w nm a cap l := ⟨by have := (fewB_spec hf).1; omega, hS, hcap, by omega⟩
    by_cases h : sqE nm.data.toList bd l t x y z = 0
    · exact walk_ok nm bd t x y z a cap l w hO hf h
    · exact walk_err nm bd t x y z a cap l w hO hf h

set_option maxRecDepth 100000 in
theorem lifted (os : Os) (started : os.Started) (H : Type) (enc : TypeId × Value → H) :
    ReturnsInHanded {} Try.checked os 8 .any (Rows.orbitDistancesSpec.pre6 enc Try.prog Try.f8 Rows.orbitDistancesRow.domain false) (Rows.orbitDistancesSpec.post enc Try.prog Try.f8 false true false false) := by
  refine returnsInHanded_of_change (C := Try.checked) own started (by kernel_rfl) Try.func8
    (ChangeSpec.witness6 (enc := enc) (C := Try.checked) false ⟨#[], #[.agg #[.string ⟨#[]⟩, .int .i64 0, .slice none 0 0], .int .i64 0, .agg #[.int .i64 0, .int .i64 0, .int .i64 0]], []⟩ 8 (by kernel_rfl) (by kernel_rfl) (by kernel_rfl) (by kernel_rfl)) ?_
  intro W base args ds gs before hval0 hW hcnd _
  have hval : ∀ (j : Nat) t v, Try.f8.params[j]? = some t → args[j]? = some v → Value.okWide Try.prog W .any base t v := hval0
  have hW' := hW
  obtain ⟨p, q, hA0, hV, rfl, hfz, hnd⟩ := hW
  have hA : DataW.TrodAll enc Try.prog W 0 (fun _ => true) true Try.f8.params.toList args.toList ds p := hA0
  rw [Try.params8] at hA hval
  obtain ⟨v0, vs0, d0, ds0, p0, q0, hargs, rfl, rfl, h0, r0⟩ := trodAll_cons hA
  obtain ⟨v1, vs1, d1, ds1, p1, q1, rfl, rfl, rfl, h1, r1⟩ := trodAll_cons r0
  obtain ⟨v2, vs2, d2, ds2, p2, q2, rfl, rfl, rfl, h2, r2⟩ := trodAll_cons r1
  obtain ⟨rfl, rfl, rfl⟩ := trodAll_nil r2
  obtain rfl : args = #[v0, v1, v2] := by cases args; simp_all
  obtain ⟨rfl, rfl⟩ := trodVars_none hV
  clear hA0 hval0
  have hlt := hW'.lt
  have g0 := h0
  have g1 := h1
  have g2 := h2
  obtain ⟨nm0, bd0, a0, l0, cap0, rfl, hnm0, hbd0, hcap0, hcm0, hS0⟩ := open_orbit (hval 0 24 v0 rfl rfl) h0
  obtain ⟨x1, rfl, -, -, wx1⟩ := open_int Try.underlying3 (hval 1 3 v1 rfl rfl) h1
  obtain ⟨px2, py2, pz2, rfl, hpx2, hpy2, hpz2⟩ := open_place (hval 2 26 v2 rfl rfl) h2
  simp only [List.append_nil] at hW' hlt ⊢
  refine (walk nm0 bd0 x1 px2 py2 pz2 a0 l0 cap0 W hnm0 hcap0 hcm0 hS0).mono fun e W' ⟨he, hb⟩ => ?_
  subst he
  have stay : ∀ (t : TypeId) v d ps (sp : Nat → Bool), Try.prog.readableRec t = true → t < Try.prog.types.size → DataW.Trod enc Try.prog W 0 (fun _ => true) true t v d ps → (∀ x ∈ ps, x.block < W.heap.size) → (∀ x ∈ ps, sp x.block = true) → DataW.Trod enc Try.prog W' 0 sp true t v d ps :=
    fun t v d ps sp hr ht h hx hs => Go.WideElems.Trod_stays laid hr ht h (fun x hxp => hb.same (hx x hxp)) hs
  exact ⟨_, rfl, post_below (pa := p0 ++ (p1 ++ (p2 ++ []))) (pv := []) hW' (fun _ _ _ => trodAll_mk1 (shut_bool Try.underlying4 true)) (fun sp hs => (trodAll_cons_mk (stay 24 _ _ _ sp (by kernel_rfl) (of_decide_eq_true (by kernel_rfl)) g0 (fun x hx => hlt x (by simp [hx])) (fun x hx => hs x (by simp [hx]))) (trodAll_cons_mk (stay 3 _ _ _ sp (by kernel_rfl) (of_decide_eq_true (by kernel_rfl)) g1 (fun x hx => hlt x (by simp [hx])) (fun x hx => hs x (by simp [hx]))) (trodAll_cons_mk (stay 26 _ _ _ sp (by kernel_rfl) (of_decide_eq_true (by kernel_rfl)) g2 (fun x hx => hlt x (by simp [hx])) (fun x hx => hs x (by simp [hx]))) (trodAll_mk0))))) (fun _ _ => rfl) (by simp)
    hb (ok_one (by kernel_rfl) rfl (okWide_bool_mk Try.underlying4 true))⟩

theorem over : Rows.orbitDistancesRow.holds Try.pinned (OpenSpec.ofChange Rows.orbitDistancesSpec) :=
  OpenClaim.holds_of_wide 8 Try.f8 rfl rfl rfl rfl rfl rfl rfl ⟨rfl, rfl, rfl, rfl, rfl⟩ rfl rfl rfl rfl rfl (by kernel_rfl) Try.func8 (by kernel_rfl)
    (of_decide_eq_true (by kernel_rfl)) (by unfold Func.isWrapper; first | (rw [if_pos (by decide +kernel)]; kernel_rfl) | (rw [if_neg (by decide +kernel)]; exact ⟨rfl, rfl⟩))
    (fun os started H enc _ => lifted os started H enc)

/-- The statement. -/
theorem proved : Rows.OrbitDistancesSaid := over
#print axioms proved
end Go.Proofs.Ytaoennekamlfeaa.OrbitDistances
