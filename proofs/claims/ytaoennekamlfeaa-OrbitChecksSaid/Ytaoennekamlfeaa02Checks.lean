/- OrbitChecks: CheckOrbit and SpeedOf return what the reference does, or the errors. -/
import Derived.Test.Ytaoennekamlfeaa02SpO
import Derived.Test.Ytaoennekamlfeaa02E
import Derived.Test.Ytaoennekamlfeaa02CopyR
import Derived.Test.Ytaoennekamlfeaa02Claim
set_option linter.unusedSimpArgs false
set_option linter.unusedVariables false
namespace Go.Proofs.Ytaoennekamlfeaa.OrbitChecks
open Go.ChangeShapes Go.WideShapes Go.ChangeAt Go.RowKit Go.Ob Go.Proofs.Ytaoennekamlfeaa

set_option maxRecDepth 100000 in
set_option maxHeartbeats 2000000 in
theorem walk_few_no (nm : ByteArray) (bd k : Int) (a : Option Addr) (n cap : Nat) (w : World) (hn : (n : Int) ≤ 9223372036854775807) (hnm : (nm.size : Int) ≤ 9223372036854775807) (hf : fewB nm.size n = false) :
    Calls Try.prog 10 #[obV nm bd a n cap, .int .i64 k] w fun e w' => e = .returned (.bool true) ∧ Below w.heap.size w w' := by
  have HF := Lib.hid (fun w' => Few_any nm bd a n cap w' hn hnm)
  rw [hf] at HF
  clear hf
  refine Calls.made fun R HR => ?_
  go_enter Try.func10, Try.ntmps10
  go_wp2_with (first | (go_at_call 15; refine (awake_any _).mono ?_; rintro e w1 ⟨rfl, hb1⟩; have hc1 := (Free.cells_of hb1).1; have hf1 := (Free.cells_of hb1).2; have hz1 := hb1.size; (try simp only [World.size_alloc, World.size_setCell, World.size_drew] at hz1); (try (have : w.heap.size < w1.heap.size := (by omega))); (try (have : w.heap.size < w1.heap.size + 1 := (by omega))); (try (have : w.heap.size < w1.heap.size + 1 + 1 := (by omega))); (try (have : w.heap.size + 1 < w1.heap.size := (by omega))); (try (have : w.heap.size + 1 < w1.heap.size + 1 := (by omega))); (try (have : w.heap.size + 1 < w1.heap.size + 1 + 1 := (by omega))); (try (have : w.heap.size + 1 + 1 < w1.heap.size := (by omega))); (try (have : w.heap.size + 1 + 1 < w1.heap.size + 1 := (by omega))); (try (have : w.heap.size + 1 + 1 < w1.heap.size + 1 + 1 := (by omega))); (try (have : w.heap.size + 1 + 1 + 1 < w1.heap.size := (by omega))); (try (have : w.heap.size + 1 + 1 + 1 < w1.heap.size + 1 := (by omega))); (try (have : w.heap.size + 1 + 1 + 1 < w1.heap.size + 1 + 1 := (by omega)))) | (go_at_call 25; refine (HF.out _).mono ?_; rintro e w2 ⟨rfl, hb2⟩; have hc2 := (Free.cells_of hb2).1; have hf2 := (Free.cells_of hb2).2; have hz2 := hb2.size; (try simp only [World.size_alloc, World.size_setCell, World.size_drew] at hz2); (try (have : w.heap.size < w2.heap.size := (by omega))); (try (have : w.heap.size < w2.heap.size + 1 := (by omega))); (try (have : w.heap.size < w2.heap.size + 1 + 1 := (by omega))); (try (have : w.heap.size + 1 < w2.heap.size := (by omega))); (try (have : w.heap.size + 1 < w2.heap.size + 1 := (by omega))); (try (have : w.heap.size + 1 < w2.heap.size + 1 + 1 := (by omega))); (try (have : w.heap.size + 1 + 1 < w2.heap.size := (by omega))); (try (have : w.heap.size + 1 + 1 < w2.heap.size + 1 := (by omega))); (try (have : w.heap.size + 1 + 1 < w2.heap.size + 1 + 1 := (by omega))); (try (have : w.heap.size + 1 + 1 + 1 < w2.heap.size := (by omega))); (try (have : w.heap.size + 1 + 1 + 1 < w2.heap.size + 1 := (by omega))); (try (have : w.heap.size + 1 + 1 + 1 < w2.heap.size + 1 + 1 := (by omega))); (try (have : w1.heap.size < w2.heap.size := (by omega))); (try (have : w1.heap.size < w2.heap.size + 1 := (by omega))); (try (have : w1.heap.size < w2.heap.size + 1 + 1 := (by omega))); (try (have : w1.heap.size + 1 < w2.heap.size := (by omega))); (try (have : w1.heap.size + 1 < w2.heap.size + 1 := (by omega))); (try (have : w1.heap.size + 1 < w2.heap.size + 1 + 1 := (by omega))); (try (have : w1.heap.size + 1 + 1 < w2.heap.size := (by omega))); (try (have : w1.heap.size + 1 + 1 < w2.heap.size + 1 := (by omega))); (try (have : w1.heap.size + 1 + 1 < w2.heap.size + 1 + 1 := (by omega))); (try (have : w1.heap.size + 1 + 1 + 1 < w2.heap.size := (by omega))); (try (have : w1.heap.size + 1 + 1 + 1 < w2.heap.size + 1 := (by omega))); (try (have : w1.heap.size + 1 + 1 + 1 < w2.heap.size + 1 + 1 := (by omega)))))
  first | (go_ret; exact HR.out _ (by repeat' first | with_reducible exact Below.refl _ _ | with_reducible assumption | with_reducible refine Free.Grow.alloc ?_ _ | with_reducible refine Free.Grow.setCell ?_ (by first | omega | (simp; done) | (simp; omega)) _ | with_reducible refine Free.Grow.drew ?_ | with_reducible refine Free.Grow.trans ?_ (by assumption))) | exact HR.out _ (by repeat' first | with_reducible exact Below.refl _ _ | with_reducible assumption | with_reducible refine Free.Grow.alloc ?_ _ | with_reducible refine Free.Grow.setCell ?_ (by first | omega | (simp; done) | (simp; omega)) _ | with_reducible refine Free.Grow.drew ?_ | with_reducible refine Free.Grow.trans ?_ (by assumption))

set_option maxRecDepth 100000 in
set_option maxHeartbeats 8000000 in
theorem walk_err (nm : ByteArray) (bd k : Int) (a : Option Addr) (cap : Nat) (l : List St) (w : World) (hO : OrbIn w nm a cap l) (hf : fewB nm.size l.length = true) (h : (orbE nm.data.toList bd l).2 ≠ 0) :
    Calls Try.prog 10 #[obV nm bd a l.length cap, .int .i64 k] w fun e w' => e = .returned (.bool true) ∧ Below w.heap.size w w' := by
  have HF := Lib.hid (fun w' => Few_any nm bd a l.length cap w' hO.len (by have := hO.nm; omega))
  rw [hf] at HF
  have h40 := (fewB_spec hf).2
  have HC := Lib.hid (fun w' (h : OrbIn w' nm a cap l) => Copy_any nm bd a cap l w' h (by omega))
  have HE : spE nm.data.toList bd l k = (orbE nm.data.toList bd l).2 := by unfold spE; rw [if_pos h]
  have HSO : spOr nm.data.toList bd l k = zero6 := by unfold spOr; rw [HE, if_neg h]
  have HCk := Lib.hid (fun w' (g c : Nat) (h : OrbIn w' nm (some ⟨g, 0, none⟩) c l) => CheckOrbit_any nm bd (some ⟨g, 0, none⟩) c l w' h.nm h.sts h.cap h.len)
  have HSp := Lib.hid (fun w' (g c : Nat) (h : OrbIn w' nm (some ⟨g, 0, none⟩) c l) => SpeedOf_any nm bd k (some ⟨g, 0, none⟩) c l w' h)
  rw [HE, HSO] at HSp
  have HR' := Lib.hid (fun w' (h : OrbIn w' nm a cap l) => rCheckOrbit_any nm bd a cap l w' h)
  unfold zero6 at HSp
  have hb0 : ((orbE nm.data.toList bd l).2 == 0) = false := by simpa using h
  have hb1 : ((orbE nm.data.toList bd l).2 != 0) = true := by simpa using h
  have HO := Lib.hid hO
  clear h hO hf HE HSO
  generalize (orbE nm.data.toList bd l).2 = c at *
  generalize (orbE nm.data.toList bd l).1 = i at *
  refine Calls.made fun R HR => ?_
  go_enter Try.func10, Try.ntmps10
  go_wp2_with (first | (go_at_call 15; refine (awake_any _).mono ?_; rintro e w1 ⟨rfl, hb1⟩; have hc1 := (Free.cells_of hb1).1; have hf1 := (Free.cells_of hb1).2; have hz1 := hb1.size; (try simp only [World.size_alloc, World.size_setCell, World.size_drew] at hz1); (try (have : w.heap.size < w1.heap.size := (by omega))); (try (have : w.heap.size < w1.heap.size + 1 := (by omega))); (try (have : w.heap.size < w1.heap.size + 1 + 1 := (by omega))); (try (have : w.heap.size + 1 < w1.heap.size := (by omega))); (try (have : w.heap.size + 1 < w1.heap.size + 1 := (by omega))); (try (have : w.heap.size + 1 < w1.heap.size + 1 + 1 := (by omega))); (try (have : w.heap.size + 1 + 1 < w1.heap.size := (by omega))); (try (have : w.heap.size + 1 + 1 < w1.heap.size + 1 := (by omega))); (try (have : w.heap.size + 1 + 1 < w1.heap.size + 1 + 1 := (by omega))); (try (have : w.heap.size + 1 + 1 + 1 < w1.heap.size := (by omega))); (try (have : w.heap.size + 1 + 1 + 1 < w1.heap.size + 1 := (by omega))); (try (have : w.heap.size + 1 + 1 + 1 < w1.heap.size + 1 + 1 := (by omega)))) | (go_at_call 25; refine (HF.out _).mono ?_; rintro e w2 ⟨rfl, hb2⟩; have hc2 := (Free.cells_of hb2).1; have hf2 := (Free.cells_of hb2).2; have hz2 := hb2.size; (try simp only [World.size_alloc, World.size_setCell, World.size_drew] at hz2); (try (have : w.heap.size < w2.heap.size := (by omega))); (try (have : w.heap.size < w2.heap.size + 1 := (by omega))); (try (have : w.heap.size < w2.heap.size + 1 + 1 := (by omega))); (try (have : w.heap.size + 1 < w2.heap.size := (by omega))); (try (have : w.heap.size + 1 < w2.heap.size + 1 := (by omega))); (try (have : w.heap.size + 1 < w2.heap.size + 1 + 1 := (by omega))); (try (have : w.heap.size + 1 + 1 < w2.heap.size := (by omega))); (try (have : w.heap.size + 1 + 1 < w2.heap.size + 1 := (by omega))); (try (have : w.heap.size + 1 + 1 < w2.heap.size + 1 + 1 := (by omega))); (try (have : w.heap.size + 1 + 1 + 1 < w2.heap.size := (by omega))); (try (have : w.heap.size + 1 + 1 + 1 < w2.heap.size + 1 := (by omega))); (try (have : w.heap.size + 1 + 1 + 1 < w2.heap.size + 1 + 1 := (by omega))); (try (have : w1.heap.size < w2.heap.size := (by omega))); (try (have : w1.heap.size < w2.heap.size + 1 := (by omega))); (try (have : w1.heap.size < w2.heap.size + 1 + 1 := (by omega))); (try (have : w1.heap.size + 1 < w2.heap.size := (by omega))); (try (have : w1.heap.size + 1 < w2.heap.size + 1 := (by omega))); (try (have : w1.heap.size + 1 < w2.heap.size + 1 + 1 := (by omega))); (try (have : w1.heap.size + 1 + 1 < w2.heap.size := (by omega))); (try (have : w1.heap.size + 1 + 1 < w2.heap.size + 1 := (by omega))); (try (have : w1.heap.size + 1 + 1 < w2.heap.size + 1 + 1 := (by omega))); (try (have : w1.heap.size + 1 + 1 + 1 < w2.heap.size := (by omega))); (try (have : w1.heap.size + 1 + 1 + 1 < w2.heap.size + 1 := (by omega))); (try (have : w1.heap.size + 1 + 1 + 1 < w2.heap.size + 1 + 1 := (by omega)))))
  go_wp2_with fail
  refine (HC.out _ (HO.out.below (by repeat' first | with_reducible exact Below.refl _ _ | with_reducible assumption | with_reducible refine Free.Grow.alloc ?_ _ | with_reducible refine Free.Grow.setCell ?_ (by first | omega | (simp; done) | (simp; omega)) _ | with_reducible refine Free.Grow.drew ?_ | with_reducible refine Free.Grow.trans ?_ (by assumption)))).mono ?_
  rintro e w3 ⟨g3, cap3, rfl, hb3, how3, hO3⟩
  have hc3 := (Free.cells_of hb3).1; have hf3 := (Free.cells_of hb3).2; have hz3 := hb3.size; (try simp only [World.size_alloc, World.size_setCell, World.size_drew] at hz3)
  (try (have : w.heap.size < w3.heap.size := (by omega))); (try (have : w.heap.size < w3.heap.size + 1 := (by omega))); (try (have : w.heap.size < w3.heap.size + 1 + 1 := (by omega))); (try (have : w.heap.size + 1 < w3.heap.size := (by omega))); (try (have : w.heap.size + 1 < w3.heap.size + 1 := (by omega))); (try (have : w.heap.size + 1 < w3.heap.size + 1 + 1 := (by omega))); (try (have : w.heap.size + 1 + 1 < w3.heap.size := (by omega))); (try (have : w.heap.size + 1 + 1 < w3.heap.size + 1 := (by omega))); (try (have : w.heap.size + 1 + 1 < w3.heap.size + 1 + 1 := (by omega))); (try (have : w.heap.size + 1 + 1 + 1 < w3.heap.size := (by omega))); (try (have : w.heap.size + 1 + 1 + 1 < w3.heap.size + 1 := (by omega))); (try (have : w.heap.size + 1 + 1 + 1 < w3.heap.size + 1 + 1 := (by omega)))
  have HO3 := Lib.hid hO3
  clear how3 hO3
  go_wp2_with fail
  refine (HCk.out _ _ _ HO3.out).mono ?_
  rintro e w4 ⟨rfl, hb4⟩
  have hc4 := (Free.cells_of hb4).1; have hf4 := (Free.cells_of hb4).2; have hz4 := hb4.size; (try simp only [World.size_alloc, World.size_setCell, World.size_drew] at hz4)
  (try (have : w.heap.size < w4.heap.size := (by omega))); (try (have : w.heap.size < w4.heap.size + 1 := (by omega))); (try (have : w.heap.size < w4.heap.size + 1 + 1 := (by omega))); (try (have : w.heap.size + 1 < w4.heap.size := (by omega))); (try (have : w.heap.size + 1 < w4.heap.size + 1 := (by omega))); (try (have : w.heap.size + 1 < w4.heap.size + 1 + 1 := (by omega))); (try (have : w.heap.size + 1 + 1 < w4.heap.size := (by omega))); (try (have : w.heap.size + 1 + 1 < w4.heap.size + 1 := (by omega))); (try (have : w.heap.size + 1 + 1 < w4.heap.size + 1 + 1 := (by omega))); (try (have : w.heap.size + 1 + 1 + 1 < w4.heap.size := (by omega))); (try (have : w.heap.size + 1 + 1 + 1 < w4.heap.size + 1 := (by omega))); (try (have : w.heap.size + 1 + 1 + 1 < w4.heap.size + 1 + 1 := (by omega)))
  go_wp2_with fail
  refine (HC.out _ (HO.out.below (by repeat' first | with_reducible exact Below.refl _ _ | with_reducible assumption | with_reducible refine Free.Grow.alloc ?_ _ | with_reducible refine Free.Grow.setCell ?_ (by first | omega | (simp; done) | (simp; omega)) _ | with_reducible refine Free.Grow.drew ?_ | with_reducible refine Free.Grow.trans ?_ (by assumption)))).mono ?_
  rintro e w5 ⟨g5, cap5, rfl, hb5, how5, hO5⟩
  have hc5 := (Free.cells_of hb5).1; have hf5 := (Free.cells_of hb5).2; have hz5 := hb5.size; (try simp only [World.size_alloc, World.size_setCell, World.size_drew] at hz5)
  (try (have : w.heap.size < w5.heap.size := (by omega))); (try (have : w.heap.size < w5.heap.size + 1 := (by omega))); (try (have : w.heap.size < w5.heap.size + 1 + 1 := (by omega))); (try (have : w.heap.size + 1 < w5.heap.size := (by omega))); (try (have : w.heap.size + 1 < w5.heap.size + 1 := (by omega))); (try (have : w.heap.size + 1 < w5.heap.size + 1 + 1 := (by omega))); (try (have : w.heap.size + 1 + 1 < w5.heap.size := (by omega))); (try (have : w.heap.size + 1 + 1 < w5.heap.size + 1 := (by omega))); (try (have : w.heap.size + 1 + 1 < w5.heap.size + 1 + 1 := (by omega))); (try (have : w.heap.size + 1 + 1 + 1 < w5.heap.size := (by omega))); (try (have : w.heap.size + 1 + 1 + 1 < w5.heap.size + 1 := (by omega))); (try (have : w.heap.size + 1 + 1 + 1 < w5.heap.size + 1 + 1 := (by omega))); (try (have : w4.heap.size < w5.heap.size := (by omega))); (try (have : w4.heap.size < w5.heap.size + 1 := (by omega))); (try (have : w4.heap.size < w5.heap.size + 1 + 1 := (by omega))); (try (have : w4.heap.size + 1 < w5.heap.size := (by omega))); (try (have : w4.heap.size + 1 < w5.heap.size + 1 := (by omega))); (try (have : w4.heap.size + 1 < w5.heap.size + 1 + 1 := (by omega))); (try (have : w4.heap.size + 1 + 1 < w5.heap.size := (by omega))); (try (have : w4.heap.size + 1 + 1 < w5.heap.size + 1 := (by omega))); (try (have : w4.heap.size + 1 + 1 < w5.heap.size + 1 + 1 := (by omega))); (try (have : w4.heap.size + 1 + 1 + 1 < w5.heap.size := (by omega))); (try (have : w4.heap.size + 1 + 1 + 1 < w5.heap.size + 1 := (by omega))); (try (have : w4.heap.size + 1 + 1 + 1 < w5.heap.size + 1 + 1 := (by omega)))
  have HO5 := Lib.hid hO5
  clear how5 hO5
  go_wp2_with fail
  refine (HSp.out _ _ _ HO5.out).mono ?_
  rintro e w6 ⟨rfl, hb6⟩
  have hc6 := (Free.cells_of hb6).1; have hf6 := (Free.cells_of hb6).2; have hz6 := hb6.size; (try simp only [World.size_alloc, World.size_setCell, World.size_drew] at hz6)
  (try (have : w.heap.size < w6.heap.size := (by omega))); (try (have : w.heap.size < w6.heap.size + 1 := (by omega))); (try (have : w.heap.size < w6.heap.size + 1 + 1 := (by omega))); (try (have : w.heap.size + 1 < w6.heap.size := (by omega))); (try (have : w.heap.size + 1 < w6.heap.size + 1 := (by omega))); (try (have : w.heap.size + 1 < w6.heap.size + 1 + 1 := (by omega))); (try (have : w.heap.size + 1 + 1 < w6.heap.size := (by omega))); (try (have : w.heap.size + 1 + 1 < w6.heap.size + 1 := (by omega))); (try (have : w.heap.size + 1 + 1 < w6.heap.size + 1 + 1 := (by omega))); (try (have : w.heap.size + 1 + 1 + 1 < w6.heap.size := (by omega))); (try (have : w.heap.size + 1 + 1 + 1 < w6.heap.size + 1 := (by omega))); (try (have : w.heap.size + 1 + 1 + 1 < w6.heap.size + 1 + 1 := (by omega))); (try (have : w4.heap.size < w6.heap.size := (by omega))); (try (have : w4.heap.size < w6.heap.size + 1 := (by omega))); (try (have : w4.heap.size < w6.heap.size + 1 + 1 := (by omega))); (try (have : w4.heap.size + 1 < w6.heap.size := (by omega))); (try (have : w4.heap.size + 1 < w6.heap.size + 1 := (by omega))); (try (have : w4.heap.size + 1 < w6.heap.size + 1 + 1 := (by omega))); (try (have : w4.heap.size + 1 + 1 < w6.heap.size := (by omega))); (try (have : w4.heap.size + 1 + 1 < w6.heap.size + 1 := (by omega))); (try (have : w4.heap.size + 1 + 1 < w6.heap.size + 1 + 1 := (by omega))); (try (have : w4.heap.size + 1 + 1 + 1 < w6.heap.size := (by omega))); (try (have : w4.heap.size + 1 + 1 + 1 < w6.heap.size + 1 := (by omega))); (try (have : w4.heap.size + 1 + 1 + 1 < w6.heap.size + 1 + 1 := (by omega)))
  go_wp2_with fail
  refine (HR'.out _ (HO.out.below (by repeat' first | with_reducible exact Below.refl _ _ | with_reducible assumption | with_reducible refine Free.Grow.alloc ?_ _ | with_reducible refine Free.Grow.setCell ?_ (by first | omega | (simp; done) | (simp; omega)) _ | with_reducible refine Free.Grow.drew ?_ | with_reducible refine Free.Grow.trans ?_ (by assumption)))).mono ?_
  rintro e w7 ⟨rfl, hb7⟩
  have hc7 := (Free.cells_of hb7).1; have hf7 := (Free.cells_of hb7).2; have hz7 := hb7.size; (try simp only [World.size_alloc, World.size_setCell, World.size_drew] at hz7)
  (try (have : w.heap.size < w7.heap.size := (by omega))); (try (have : w.heap.size < w7.heap.size + 1 := (by omega))); (try (have : w.heap.size < w7.heap.size + 1 + 1 := (by omega))); (try (have : w.heap.size + 1 < w7.heap.size := (by omega))); (try (have : w.heap.size + 1 < w7.heap.size + 1 := (by omega))); (try (have : w.heap.size + 1 < w7.heap.size + 1 + 1 := (by omega))); (try (have : w.heap.size + 1 + 1 < w7.heap.size := (by omega))); (try (have : w.heap.size + 1 + 1 < w7.heap.size + 1 := (by omega))); (try (have : w.heap.size + 1 + 1 < w7.heap.size + 1 + 1 := (by omega))); (try (have : w.heap.size + 1 + 1 + 1 < w7.heap.size := (by omega))); (try (have : w.heap.size + 1 + 1 + 1 < w7.heap.size + 1 := (by omega))); (try (have : w.heap.size + 1 + 1 + 1 < w7.heap.size + 1 + 1 := (by omega))); (try (have : w4.heap.size < w7.heap.size := (by omega))); (try (have : w4.heap.size < w7.heap.size + 1 := (by omega))); (try (have : w4.heap.size < w7.heap.size + 1 + 1 := (by omega))); (try (have : w4.heap.size + 1 < w7.heap.size := (by omega))); (try (have : w4.heap.size + 1 < w7.heap.size + 1 := (by omega))); (try (have : w4.heap.size + 1 < w7.heap.size + 1 + 1 := (by omega))); (try (have : w4.heap.size + 1 + 1 < w7.heap.size := (by omega))); (try (have : w4.heap.size + 1 + 1 < w7.heap.size + 1 := (by omega))); (try (have : w4.heap.size + 1 + 1 < w7.heap.size + 1 + 1 := (by omega))); (try (have : w4.heap.size + 1 + 1 + 1 < w7.heap.size := (by omega))); (try (have : w4.heap.size + 1 + 1 + 1 < w7.heap.size + 1 := (by omega))); (try (have : w4.heap.size + 1 + 1 + 1 < w7.heap.size + 1 + 1 := (by omega))); (try (have : w6.heap.size < w7.heap.size := (by omega))); (try (have : w6.heap.size < w7.heap.size + 1 := (by omega))); (try (have : w6.heap.size < w7.heap.size + 1 + 1 := (by omega))); (try (have : w6.heap.size + 1 < w7.heap.size := (by omega))); (try (have : w6.heap.size + 1 < w7.heap.size + 1 := (by omega))); (try (have : w6.heap.size + 1 < w7.heap.size + 1 + 1 := (by omega))); (try (have : w6.heap.size + 1 + 1 < w7.heap.size := (by omega))); (try (have : w6.heap.size + 1 + 1 < w7.heap.size + 1 := (by omega))); (try (have : w6.heap.size + 1 + 1 < w7.heap.size + 1 + 1 := (by omega))); (try (have : w6.heap.size + 1 + 1 + 1 < w7.heap.size := (by omega))); (try (have : w6.heap.size + 1 + 1 + 1 < w7.heap.size + 1 := (by omega))); (try (have : w6.heap.size + 1 + 1 + 1 < w7.heap.size + 1 + 1 := (by omega)))
  go_wp2
  first | (go_ret; exact HR.out _ (by repeat' first | with_reducible exact Below.refl _ _ | with_reducible assumption | with_reducible refine Free.Grow.alloc ?_ _ | with_reducible refine Free.Grow.setCell ?_ (by first | omega | (simp; done) | (simp; omega)) _ | with_reducible refine Free.Grow.drew ?_ | with_reducible refine Free.Grow.trans ?_ (by assumption))) | exact HR.out _ (by repeat' first | with_reducible exact Below.refl _ _ | with_reducible assumption | with_reducible refine Free.Grow.alloc ?_ _ | with_reducible refine Free.Grow.setCell ?_ (by first | omega | (simp; done) | (simp; omega)) _ | with_reducible refine Free.Grow.drew ?_ | with_reducible refine Free.Grow.trans ?_ (by assumption))

set_option maxRecDepth 100000 in
set_option maxHeartbeats 8000000 in
theorem walk_arc (nm : ByteArray) (bd k : Int) (a : Option Addr) (cap : Nat) (l : List St) (w : World) (hO : OrbIn w nm a cap l) (hf : fewB nm.size l.length = true) (h : (orbE nm.data.toList bd l).2 = 0) (ha : arcB l k = false) :
    Calls Try.prog 10 #[obV nm bd a l.length cap, .int .i64 k] w fun e w' => e = .returned (.bool true) ∧ Below w.heap.size w w' := by
  have HF := Lib.hid (fun w' => Few_any nm bd a l.length cap w' hO.len (by have := hO.nm; omega))
  rw [hf] at HF
  have h40 := (fewB_spec hf).2
  have hn2 := (orbE_right h).1.n2
  have HC := Lib.hid (fun w' (h : OrbIn w' nm a cap l) => Copy_any nm bd a cap l w' h (by omega))
  have HE : spE nm.data.toList bd l k = 6 := by unfold spE arcE; rw [if_neg (by simp [h]), if_neg (by simp [ha])]
  have HSO : spOr nm.data.toList bd l k = zero6 := by unfold spOr; rw [HE, if_neg (by decide)]
  have HCk := Lib.hid (fun w' (g c : Nat) (h : OrbIn w' nm (some ⟨g, 0, none⟩) c l) => CheckOrbit_any nm bd (some ⟨g, 0, none⟩) c l w' h.nm h.sts h.cap h.len)
  have HSp := Lib.hid (fun w' (g c : Nat) (h : OrbIn w' nm (some ⟨g, 0, none⟩) c l) => SpeedOf_any nm bd k (some ⟨g, 0, none⟩) c l w' h)
  rw [HE, HSO] at HSp
  unfold zero6 at HSp
  have HR' := Lib.hid (fun w' (h : OrbIn w' nm a cap l) => rCheckOrbit_any nm bd a cap l w' h)
  have HW := Lib.hid (fun w => rWithin_any k 0 (l.length - 2) w)
  have ha' : rngB k 0 (l.length - 2) = false := ha
  rw [ha'] at HW
  rw [h] at HCk HR'
  have HO := Lib.hid hO
  have hn : (l.length : Int) ≤ 1000 := by omega
  have hn' : (2 : Int) ≤ l.length := by omega
  clear h hO hf HE HSO ha ha'
  generalize (orbE nm.data.toList bd l).1 = i at *
  refine Calls.made fun R HR => ?_
  go_enter Try.func10, Try.ntmps10
  go_wp2_with (first | (go_at_call 15; refine (awake_any _).mono ?_; rintro e w1 ⟨rfl, hb1⟩; have hc1 := (Free.cells_of hb1).1; have hf1 := (Free.cells_of hb1).2; have hz1 := hb1.size; (try simp only [World.size_alloc, World.size_setCell, World.size_drew] at hz1); (try (have : w.heap.size < w1.heap.size := (by omega))); (try (have : w.heap.size < w1.heap.size + 1 := (by omega))); (try (have : w.heap.size < w1.heap.size + 1 + 1 := (by omega))); (try (have : w.heap.size + 1 < w1.heap.size := (by omega))); (try (have : w.heap.size + 1 < w1.heap.size + 1 := (by omega))); (try (have : w.heap.size + 1 < w1.heap.size + 1 + 1 := (by omega))); (try (have : w.heap.size + 1 + 1 < w1.heap.size := (by omega))); (try (have : w.heap.size + 1 + 1 < w1.heap.size + 1 := (by omega))); (try (have : w.heap.size + 1 + 1 < w1.heap.size + 1 + 1 := (by omega))); (try (have : w.heap.size + 1 + 1 + 1 < w1.heap.size := (by omega))); (try (have : w.heap.size + 1 + 1 + 1 < w1.heap.size + 1 := (by omega))); (try (have : w.heap.size + 1 + 1 + 1 < w1.heap.size + 1 + 1 := (by omega)))) | (go_at_call 25; refine (HF.out _).mono ?_; rintro e w2 ⟨rfl, hb2⟩; have hc2 := (Free.cells_of hb2).1; have hf2 := (Free.cells_of hb2).2; have hz2 := hb2.size; (try simp only [World.size_alloc, World.size_setCell, World.size_drew] at hz2); (try (have : w.heap.size < w2.heap.size := (by omega))); (try (have : w.heap.size < w2.heap.size + 1 := (by omega))); (try (have : w.heap.size < w2.heap.size + 1 + 1 := (by omega))); (try (have : w.heap.size + 1 < w2.heap.size := (by omega))); (try (have : w.heap.size + 1 < w2.heap.size + 1 := (by omega))); (try (have : w.heap.size + 1 < w2.heap.size + 1 + 1 := (by omega))); (try (have : w.heap.size + 1 + 1 < w2.heap.size := (by omega))); (try (have : w.heap.size + 1 + 1 < w2.heap.size + 1 := (by omega))); (try (have : w.heap.size + 1 + 1 < w2.heap.size + 1 + 1 := (by omega))); (try (have : w.heap.size + 1 + 1 + 1 < w2.heap.size := (by omega))); (try (have : w.heap.size + 1 + 1 + 1 < w2.heap.size + 1 := (by omega))); (try (have : w.heap.size + 1 + 1 + 1 < w2.heap.size + 1 + 1 := (by omega))); (try (have : w1.heap.size < w2.heap.size := (by omega))); (try (have : w1.heap.size < w2.heap.size + 1 := (by omega))); (try (have : w1.heap.size < w2.heap.size + 1 + 1 := (by omega))); (try (have : w1.heap.size + 1 < w2.heap.size := (by omega))); (try (have : w1.heap.size + 1 < w2.heap.size + 1 := (by omega))); (try (have : w1.heap.size + 1 < w2.heap.size + 1 + 1 := (by omega))); (try (have : w1.heap.size + 1 + 1 < w2.heap.size := (by omega))); (try (have : w1.heap.size + 1 + 1 < w2.heap.size + 1 := (by omega))); (try (have : w1.heap.size + 1 + 1 < w2.heap.size + 1 + 1 := (by omega))); (try (have : w1.heap.size + 1 + 1 + 1 < w2.heap.size := (by omega))); (try (have : w1.heap.size + 1 + 1 + 1 < w2.heap.size + 1 := (by omega))); (try (have : w1.heap.size + 1 + 1 + 1 < w2.heap.size + 1 + 1 := (by omega)))))
  go_wp2_with fail
  refine (HC.out _ (HO.out.below (by repeat' first | with_reducible exact Below.refl _ _ | with_reducible assumption | with_reducible refine Free.Grow.alloc ?_ _ | with_reducible refine Free.Grow.setCell ?_ (by first | omega | (simp; done) | (simp; omega)) _ | with_reducible refine Free.Grow.drew ?_ | with_reducible refine Free.Grow.trans ?_ (by assumption)))).mono ?_
  rintro e w3 ⟨g3, cap3, rfl, hb3, how3, hO3⟩
  have hc3 := (Free.cells_of hb3).1; have hf3 := (Free.cells_of hb3).2; have hz3 := hb3.size; (try simp only [World.size_alloc, World.size_setCell, World.size_drew] at hz3)
  (try (have : w.heap.size < w3.heap.size := (by omega))); (try (have : w.heap.size < w3.heap.size + 1 := (by omega))); (try (have : w.heap.size < w3.heap.size + 1 + 1 := (by omega))); (try (have : w.heap.size + 1 < w3.heap.size := (by omega))); (try (have : w.heap.size + 1 < w3.heap.size + 1 := (by omega))); (try (have : w.heap.size + 1 < w3.heap.size + 1 + 1 := (by omega))); (try (have : w.heap.size + 1 + 1 < w3.heap.size := (by omega))); (try (have : w.heap.size + 1 + 1 < w3.heap.size + 1 := (by omega))); (try (have : w.heap.size + 1 + 1 < w3.heap.size + 1 + 1 := (by omega))); (try (have : w.heap.size + 1 + 1 + 1 < w3.heap.size := (by omega))); (try (have : w.heap.size + 1 + 1 + 1 < w3.heap.size + 1 := (by omega))); (try (have : w.heap.size + 1 + 1 + 1 < w3.heap.size + 1 + 1 := (by omega)))
  have HO3 := Lib.hid hO3
  clear how3 hO3
  go_wp2_with fail
  refine (HCk.out _ _ _ HO3.out).mono ?_
  rintro e w4 ⟨rfl, hb4⟩
  have hc4 := (Free.cells_of hb4).1; have hf4 := (Free.cells_of hb4).2; have hz4 := hb4.size; (try simp only [World.size_alloc, World.size_setCell, World.size_drew] at hz4)
  (try (have : w.heap.size < w4.heap.size := (by omega))); (try (have : w.heap.size < w4.heap.size + 1 := (by omega))); (try (have : w.heap.size < w4.heap.size + 1 + 1 := (by omega))); (try (have : w.heap.size + 1 < w4.heap.size := (by omega))); (try (have : w.heap.size + 1 < w4.heap.size + 1 := (by omega))); (try (have : w.heap.size + 1 < w4.heap.size + 1 + 1 := (by omega))); (try (have : w.heap.size + 1 + 1 < w4.heap.size := (by omega))); (try (have : w.heap.size + 1 + 1 < w4.heap.size + 1 := (by omega))); (try (have : w.heap.size + 1 + 1 < w4.heap.size + 1 + 1 := (by omega))); (try (have : w.heap.size + 1 + 1 + 1 < w4.heap.size := (by omega))); (try (have : w.heap.size + 1 + 1 + 1 < w4.heap.size + 1 := (by omega))); (try (have : w.heap.size + 1 + 1 + 1 < w4.heap.size + 1 + 1 := (by omega)))
  go_wp2_with fail
  refine (HC.out _ (HO.out.below (by repeat' first | with_reducible exact Below.refl _ _ | with_reducible assumption | with_reducible refine Free.Grow.alloc ?_ _ | with_reducible refine Free.Grow.setCell ?_ (by first | omega | (simp; done) | (simp; omega)) _ | with_reducible refine Free.Grow.drew ?_ | with_reducible refine Free.Grow.trans ?_ (by assumption)))).mono ?_
  rintro e w5 ⟨g5, cap5, rfl, hb5, how5, hO5⟩
  have hc5 := (Free.cells_of hb5).1; have hf5 := (Free.cells_of hb5).2; have hz5 := hb5.size; (try simp only [World.size_alloc, World.size_setCell, World.size_drew] at hz5)
  (try (have : w.heap.size < w5.heap.size := (by omega))); (try (have : w.heap.size < w5.heap.size + 1 := (by omega))); (try (have : w.heap.size < w5.heap.size + 1 + 1 := (by omega))); (try (have : w.heap.size + 1 < w5.heap.size := (by omega))); (try (have : w.heap.size + 1 < w5.heap.size + 1 := (by omega))); (try (have : w.heap.size + 1 < w5.heap.size + 1 + 1 := (by omega))); (try (have : w.heap.size + 1 + 1 < w5.heap.size := (by omega))); (try (have : w.heap.size + 1 + 1 < w5.heap.size + 1 := (by omega))); (try (have : w.heap.size + 1 + 1 < w5.heap.size + 1 + 1 := (by omega))); (try (have : w.heap.size + 1 + 1 + 1 < w5.heap.size := (by omega))); (try (have : w.heap.size + 1 + 1 + 1 < w5.heap.size + 1 := (by omega))); (try (have : w.heap.size + 1 + 1 + 1 < w5.heap.size + 1 + 1 := (by omega))); (try (have : w4.heap.size < w5.heap.size := (by omega))); (try (have : w4.heap.size < w5.heap.size + 1 := (by omega))); (try (have : w4.heap.size < w5.heap.size + 1 + 1 := (by omega))); (try (have : w4.heap.size + 1 < w5.heap.size := (by omega))); (try (have : w4.heap.size + 1 < w5.heap.size + 1 := (by omega))); (try (have : w4.heap.size + 1 < w5.heap.size + 1 + 1 := (by omega))); (try (have : w4.heap.size + 1 + 1 < w5.heap.size := (by omega))); (try (have : w4.heap.size + 1 + 1 < w5.heap.size + 1 := (by omega))); (try (have : w4.heap.size + 1 + 1 < w5.heap.size + 1 + 1 := (by omega))); (try (have : w4.heap.size + 1 + 1 + 1 < w5.heap.size := (by omega))); (try (have : w4.heap.size + 1 + 1 + 1 < w5.heap.size + 1 := (by omega))); (try (have : w4.heap.size + 1 + 1 + 1 < w5.heap.size + 1 + 1 := (by omega)))
  have HO5 := Lib.hid hO5
  clear how5 hO5
  go_wp2_with fail
  refine (HSp.out _ _ _ HO5.out).mono ?_
  rintro e w6 ⟨rfl, hb6⟩
  have hc6 := (Free.cells_of hb6).1; have hf6 := (Free.cells_of hb6).2; have hz6 := hb6.size; (try simp only [World.size_alloc, World.size_setCell, World.size_drew] at hz6)
  (try (have : w.heap.size < w6.heap.size := (by omega))); (try (have : w.heap.size < w6.heap.size + 1 := (by omega))); (try (have : w.heap.size < w6.heap.size + 1 + 1 := (by omega))); (try (have : w.heap.size + 1 < w6.heap.size := (by omega))); (try (have : w.heap.size + 1 < w6.heap.size + 1 := (by omega))); (try (have : w.heap.size + 1 < w6.heap.size + 1 + 1 := (by omega))); (try (have : w.heap.size + 1 + 1 < w6.heap.size := (by omega))); (try (have : w.heap.size + 1 + 1 < w6.heap.size + 1 := (by omega))); (try (have : w.heap.size + 1 + 1 < w6.heap.size + 1 + 1 := (by omega))); (try (have : w.heap.size + 1 + 1 + 1 < w6.heap.size := (by omega))); (try (have : w.heap.size + 1 + 1 + 1 < w6.heap.size + 1 := (by omega))); (try (have : w.heap.size + 1 + 1 + 1 < w6.heap.size + 1 + 1 := (by omega))); (try (have : w4.heap.size < w6.heap.size := (by omega))); (try (have : w4.heap.size < w6.heap.size + 1 := (by omega))); (try (have : w4.heap.size < w6.heap.size + 1 + 1 := (by omega))); (try (have : w4.heap.size + 1 < w6.heap.size := (by omega))); (try (have : w4.heap.size + 1 < w6.heap.size + 1 := (by omega))); (try (have : w4.heap.size + 1 < w6.heap.size + 1 + 1 := (by omega))); (try (have : w4.heap.size + 1 + 1 < w6.heap.size := (by omega))); (try (have : w4.heap.size + 1 + 1 < w6.heap.size + 1 := (by omega))); (try (have : w4.heap.size + 1 + 1 < w6.heap.size + 1 + 1 := (by omega))); (try (have : w4.heap.size + 1 + 1 + 1 < w6.heap.size := (by omega))); (try (have : w4.heap.size + 1 + 1 + 1 < w6.heap.size + 1 := (by omega))); (try (have : w4.heap.size + 1 + 1 + 1 < w6.heap.size + 1 + 1 := (by omega)))
  go_wp2_with fail
  refine (HR'.out _ (HO.out.below (by repeat' first | with_reducible exact Below.refl _ _ | with_reducible assumption | with_reducible refine Free.Grow.alloc ?_ _ | with_reducible refine Free.Grow.setCell ?_ (by first | omega | (simp; done) | (simp; omega)) _ | with_reducible refine Free.Grow.drew ?_ | with_reducible refine Free.Grow.trans ?_ (by assumption)))).mono ?_
  rintro e w7 ⟨rfl, hb7⟩
  have hc7 := (Free.cells_of hb7).1; have hf7 := (Free.cells_of hb7).2; have hz7 := hb7.size; (try simp only [World.size_alloc, World.size_setCell, World.size_drew] at hz7)
  (try (have : w.heap.size < w7.heap.size := (by omega))); (try (have : w.heap.size < w7.heap.size + 1 := (by omega))); (try (have : w.heap.size < w7.heap.size + 1 + 1 := (by omega))); (try (have : w.heap.size + 1 < w7.heap.size := (by omega))); (try (have : w.heap.size + 1 < w7.heap.size + 1 := (by omega))); (try (have : w.heap.size + 1 < w7.heap.size + 1 + 1 := (by omega))); (try (have : w.heap.size + 1 + 1 < w7.heap.size := (by omega))); (try (have : w.heap.size + 1 + 1 < w7.heap.size + 1 := (by omega))); (try (have : w.heap.size + 1 + 1 < w7.heap.size + 1 + 1 := (by omega))); (try (have : w.heap.size + 1 + 1 + 1 < w7.heap.size := (by omega))); (try (have : w.heap.size + 1 + 1 + 1 < w7.heap.size + 1 := (by omega))); (try (have : w.heap.size + 1 + 1 + 1 < w7.heap.size + 1 + 1 := (by omega))); (try (have : w4.heap.size < w7.heap.size := (by omega))); (try (have : w4.heap.size < w7.heap.size + 1 := (by omega))); (try (have : w4.heap.size < w7.heap.size + 1 + 1 := (by omega))); (try (have : w4.heap.size + 1 < w7.heap.size := (by omega))); (try (have : w4.heap.size + 1 < w7.heap.size + 1 := (by omega))); (try (have : w4.heap.size + 1 < w7.heap.size + 1 + 1 := (by omega))); (try (have : w4.heap.size + 1 + 1 < w7.heap.size := (by omega))); (try (have : w4.heap.size + 1 + 1 < w7.heap.size + 1 := (by omega))); (try (have : w4.heap.size + 1 + 1 < w7.heap.size + 1 + 1 := (by omega))); (try (have : w4.heap.size + 1 + 1 + 1 < w7.heap.size := (by omega))); (try (have : w4.heap.size + 1 + 1 + 1 < w7.heap.size + 1 := (by omega))); (try (have : w4.heap.size + 1 + 1 + 1 < w7.heap.size + 1 + 1 := (by omega))); (try (have : w6.heap.size < w7.heap.size := (by omega))); (try (have : w6.heap.size < w7.heap.size + 1 := (by omega))); (try (have : w6.heap.size < w7.heap.size + 1 + 1 := (by omega))); (try (have : w6.heap.size + 1 < w7.heap.size := (by omega))); (try (have : w6.heap.size + 1 < w7.heap.size + 1 := (by omega))); (try (have : w6.heap.size + 1 < w7.heap.size + 1 + 1 := (by omega))); (try (have : w6.heap.size + 1 + 1 < w7.heap.size := (by omega))); (try (have : w6.heap.size + 1 + 1 < w7.heap.size + 1 := (by omega))); (try (have : w6.heap.size + 1 + 1 < w7.heap.size + 1 + 1 := (by omega))); (try (have : w6.heap.size + 1 + 1 + 1 < w7.heap.size := (by omega))); (try (have : w6.heap.size + 1 + 1 + 1 < w7.heap.size + 1 := (by omega))); (try (have : w6.heap.size + 1 + 1 + 1 < w7.heap.size + 1 + 1 := (by omega)))
  go_wp2_with (first | (go_at_call 21; refine (HW.out _).mono ?_; rintro e w' ⟨rfl, rfl⟩))
  first | (go_ret; exact HR.out _ (by repeat' first | with_reducible exact Below.refl _ _ | with_reducible assumption | with_reducible refine Free.Grow.alloc ?_ _ | with_reducible refine Free.Grow.setCell ?_ (by first | omega | (simp; done) | (simp; omega)) _ | with_reducible refine Free.Grow.drew ?_ | with_reducible refine Free.Grow.trans ?_ (by assumption))) | exact HR.out _ (by repeat' first | with_reducible exact Below.refl _ _ | with_reducible assumption | with_reducible refine Free.Grow.alloc ?_ _ | with_reducible refine Free.Grow.setCell ?_ (by first | omega | (simp; done) | (simp; omega)) _ | with_reducible refine Free.Grow.drew ?_ | with_reducible refine Free.Grow.trans ?_ (by assumption))

set_option maxRecDepth 100000 in
set_option maxHeartbeats 8000000 in
theorem walk_ok (nm : ByteArray) (bd k : Int) (a : Option Addr) (cap : Nat) (l : List St) (w : World) (hO : OrbIn w nm a cap l) (hf : fewB nm.size l.length = true) (h : (orbE nm.data.toList bd l).2 = 0) (ha : arcB l k = true) :
    Calls Try.prog 10 #[obV nm bd a l.length cap, .int .i64 k] w fun e w' => e = .returned (.bool true) ∧ Below w.heap.size w w' := by
  have HF := Lib.hid (fun w' => Few_any nm bd a l.length cap w' hO.len (by have := hO.nm; omega))
  rw [hf] at HF
  have h40 := (fewB_spec hf).2
  have hR := (orbE_right h).1
  have hn2 := hR.n2
  obtain ⟨b, off, rfl, hbw, hmem⟩ := hO.mem hR
  have HC := Lib.hid (fun w' (h : OrbIn w' nm (some ⟨b, off, none⟩) cap l) => Copy_any nm bd (some ⟨b, off, none⟩) cap l w' h (by omega))
  have HAE : arcE l k = 0 := by unfold arcE; rw [if_pos ha]
  have HE : spE nm.data.toList bd l k = 0 := by unfold spE; rw [if_neg (by simp [h]), HAE]
  have HSO : spOr nm.data.toList bd l k = spV (arcA l k) (arcZ l k) := by unfold spOr; rw [HE, if_pos rfl]
  have HCk := Lib.hid (fun w' (g c : Nat) (h : OrbIn w' nm (some ⟨g, 0, none⟩) c l) => CheckOrbit_any nm bd (some ⟨g, 0, none⟩) c l w' h.nm h.sts h.cap h.len)
  have HSp := Lib.hid (fun w' (g c : Nat) (h : OrbIn w' nm (some ⟨g, 0, none⟩) c l) => SpeedOf_any nm bd k (some ⟨g, 0, none⟩) c l w' h)
  rw [HE, HSO] at HSp
  have HR' := Lib.hid (fun w' (h : OrbIn w' nm (some ⟨b, off, none⟩) cap l) => rCheckOrbit_any nm bd (some ⟨b, off, none⟩) cap l w' h)
  have hcap := hO.cap
  have HRS := Lib.hid (fun w' (hS : HasSts w' b off l) (hb : b < w'.heap.size) => rSpeedOf_any nm bd k b off cap l w' hR ha hS hb hcap)
  have HW := Lib.hid (fun w => rWithin_any k 0 (l.length - 2) w)
  have ha' : rngB k 0 (l.length - 2) = true := ha
  rw [ha'] at HW
  rw [h] at HCk HR'
  have HO := Lib.hid hO
  have HM := Lib.hid hmem
  have hn : (l.length : Int) ≤ 1000 := by omega
  have hn' : (2 : Int) ≤ l.length := by omega
  clear h hO hf HE HSO ha ha' hR hmem HAE
  unfold spV at HSp HRS
  generalize frN ((arcZ l k).x - (arcA l k).x) ((arcZ l k).t - (arcA l k).t) = s0 at *
  generalize frD ((arcZ l k).x - (arcA l k).x) ((arcZ l k).t - (arcA l k).t) = s1 at *
  generalize frN ((arcZ l k).y - (arcA l k).y) ((arcZ l k).t - (arcA l k).t) = s2 at *
  generalize frD ((arcZ l k).y - (arcA l k).y) ((arcZ l k).t - (arcA l k).t) = s3 at *
  generalize frN ((arcZ l k).z - (arcA l k).z) ((arcZ l k).t - (arcA l k).t) = s4 at *
  generalize frD ((arcZ l k).z - (arcA l k).z) ((arcZ l k).t - (arcA l k).t) = s5 at *
  generalize (orbE nm.data.toList bd l).1 = i at *
  refine Calls.made fun R HR => ?_
  go_enter Try.func10, Try.ntmps10
  go_wp2_with (first | (go_at_call 15; refine (awake_any _).mono ?_; rintro e w1 ⟨rfl, hb1⟩; have hc1 := (Free.cells_of hb1).1; have hf1 := (Free.cells_of hb1).2; have hz1 := hb1.size; (try simp only [World.size_alloc, World.size_setCell, World.size_drew] at hz1); (try (have : w.heap.size < w1.heap.size := (by omega))); (try (have : w.heap.size < w1.heap.size + 1 := (by omega))); (try (have : w.heap.size < w1.heap.size + 1 + 1 := (by omega))); (try (have : w.heap.size + 1 < w1.heap.size := (by omega))); (try (have : w.heap.size + 1 < w1.heap.size + 1 := (by omega))); (try (have : w.heap.size + 1 < w1.heap.size + 1 + 1 := (by omega))); (try (have : w.heap.size + 1 + 1 < w1.heap.size := (by omega))); (try (have : w.heap.size + 1 + 1 < w1.heap.size + 1 := (by omega))); (try (have : w.heap.size + 1 + 1 < w1.heap.size + 1 + 1 := (by omega))); (try (have : w.heap.size + 1 + 1 + 1 < w1.heap.size := (by omega))); (try (have : w.heap.size + 1 + 1 + 1 < w1.heap.size + 1 := (by omega))); (try (have : w.heap.size + 1 + 1 + 1 < w1.heap.size + 1 + 1 := (by omega)))) | (go_at_call 25; refine (HF.out _).mono ?_; rintro e w2 ⟨rfl, hb2⟩; have hc2 := (Free.cells_of hb2).1; have hf2 := (Free.cells_of hb2).2; have hz2 := hb2.size; (try simp only [World.size_alloc, World.size_setCell, World.size_drew] at hz2); (try (have : w.heap.size < w2.heap.size := (by omega))); (try (have : w.heap.size < w2.heap.size + 1 := (by omega))); (try (have : w.heap.size < w2.heap.size + 1 + 1 := (by omega))); (try (have : w.heap.size + 1 < w2.heap.size := (by omega))); (try (have : w.heap.size + 1 < w2.heap.size + 1 := (by omega))); (try (have : w.heap.size + 1 < w2.heap.size + 1 + 1 := (by omega))); (try (have : w.heap.size + 1 + 1 < w2.heap.size := (by omega))); (try (have : w.heap.size + 1 + 1 < w2.heap.size + 1 := (by omega))); (try (have : w.heap.size + 1 + 1 < w2.heap.size + 1 + 1 := (by omega))); (try (have : w.heap.size + 1 + 1 + 1 < w2.heap.size := (by omega))); (try (have : w.heap.size + 1 + 1 + 1 < w2.heap.size + 1 := (by omega))); (try (have : w.heap.size + 1 + 1 + 1 < w2.heap.size + 1 + 1 := (by omega))); (try (have : w1.heap.size < w2.heap.size := (by omega))); (try (have : w1.heap.size < w2.heap.size + 1 := (by omega))); (try (have : w1.heap.size < w2.heap.size + 1 + 1 := (by omega))); (try (have : w1.heap.size + 1 < w2.heap.size := (by omega))); (try (have : w1.heap.size + 1 < w2.heap.size + 1 := (by omega))); (try (have : w1.heap.size + 1 < w2.heap.size + 1 + 1 := (by omega))); (try (have : w1.heap.size + 1 + 1 < w2.heap.size := (by omega))); (try (have : w1.heap.size + 1 + 1 < w2.heap.size + 1 := (by omega))); (try (have : w1.heap.size + 1 + 1 < w2.heap.size + 1 + 1 := (by omega))); (try (have : w1.heap.size + 1 + 1 + 1 < w2.heap.size := (by omega))); (try (have : w1.heap.size + 1 + 1 + 1 < w2.heap.size + 1 := (by omega))); (try (have : w1.heap.size + 1 + 1 + 1 < w2.heap.size + 1 + 1 := (by omega)))))
  go_wp2_with fail
  refine (HC.out _ (HO.out.below (by repeat' first | with_reducible exact Below.refl _ _ | with_reducible assumption | with_reducible refine Free.Grow.alloc ?_ _ | with_reducible refine Free.Grow.setCell ?_ (by first | omega | (simp; done) | (simp; omega)) _ | with_reducible refine Free.Grow.drew ?_ | with_reducible refine Free.Grow.trans ?_ (by assumption)))).mono ?_
  rintro e w3 ⟨g3, cap3, rfl, hb3, how3, hO3⟩
  have hc3 := (Free.cells_of hb3).1; have hf3 := (Free.cells_of hb3).2; have hz3 := hb3.size; (try simp only [World.size_alloc, World.size_setCell, World.size_drew] at hz3)
  (try (have : w.heap.size < w3.heap.size := (by omega))); (try (have : w.heap.size < w3.heap.size + 1 := (by omega))); (try (have : w.heap.size < w3.heap.size + 1 + 1 := (by omega))); (try (have : w.heap.size + 1 < w3.heap.size := (by omega))); (try (have : w.heap.size + 1 < w3.heap.size + 1 := (by omega))); (try (have : w.heap.size + 1 < w3.heap.size + 1 + 1 := (by omega))); (try (have : w.heap.size + 1 + 1 < w3.heap.size := (by omega))); (try (have : w.heap.size + 1 + 1 < w3.heap.size + 1 := (by omega))); (try (have : w.heap.size + 1 + 1 < w3.heap.size + 1 + 1 := (by omega))); (try (have : w.heap.size + 1 + 1 + 1 < w3.heap.size := (by omega))); (try (have : w.heap.size + 1 + 1 + 1 < w3.heap.size + 1 := (by omega))); (try (have : w.heap.size + 1 + 1 + 1 < w3.heap.size + 1 + 1 := (by omega)))
  have HO3 := Lib.hid hO3
  clear how3 hO3
  go_wp2_with fail
  refine (HCk.out _ _ _ HO3.out).mono ?_
  rintro e w4 ⟨rfl, hb4⟩
  have hc4 := (Free.cells_of hb4).1; have hf4 := (Free.cells_of hb4).2; have hz4 := hb4.size; (try simp only [World.size_alloc, World.size_setCell, World.size_drew] at hz4)
  (try (have : w.heap.size < w4.heap.size := (by omega))); (try (have : w.heap.size < w4.heap.size + 1 := (by omega))); (try (have : w.heap.size < w4.heap.size + 1 + 1 := (by omega))); (try (have : w.heap.size + 1 < w4.heap.size := (by omega))); (try (have : w.heap.size + 1 < w4.heap.size + 1 := (by omega))); (try (have : w.heap.size + 1 < w4.heap.size + 1 + 1 := (by omega))); (try (have : w.heap.size + 1 + 1 < w4.heap.size := (by omega))); (try (have : w.heap.size + 1 + 1 < w4.heap.size + 1 := (by omega))); (try (have : w.heap.size + 1 + 1 < w4.heap.size + 1 + 1 := (by omega))); (try (have : w.heap.size + 1 + 1 + 1 < w4.heap.size := (by omega))); (try (have : w.heap.size + 1 + 1 + 1 < w4.heap.size + 1 := (by omega))); (try (have : w.heap.size + 1 + 1 + 1 < w4.heap.size + 1 + 1 := (by omega)))
  go_wp2_with fail
  refine (HC.out _ (HO.out.below (by repeat' first | with_reducible exact Below.refl _ _ | with_reducible assumption | with_reducible refine Free.Grow.alloc ?_ _ | with_reducible refine Free.Grow.setCell ?_ (by first | omega | (simp; done) | (simp; omega)) _ | with_reducible refine Free.Grow.drew ?_ | with_reducible refine Free.Grow.trans ?_ (by assumption)))).mono ?_
  rintro e w5 ⟨g5, cap5, rfl, hb5, how5, hO5⟩
  have hc5 := (Free.cells_of hb5).1; have hf5 := (Free.cells_of hb5).2; have hz5 := hb5.size; (try simp only [World.size_alloc, World.size_setCell, World.size_drew] at hz5)
  (try (have : w.heap.size < w5.heap.size := (by omega))); (try (have : w.heap.size < w5.heap.size + 1 := (by omega))); (try (have : w.heap.size < w5.heap.size + 1 + 1 := (by omega))); (try (have : w.heap.size + 1 < w5.heap.size := (by omega))); (try (have : w.heap.size + 1 < w5.heap.size + 1 := (by omega))); (try (have : w.heap.size + 1 < w5.heap.size + 1 + 1 := (by omega))); (try (have : w.heap.size + 1 + 1 < w5.heap.size := (by omega))); (try (have : w.heap.size + 1 + 1 < w5.heap.size + 1 := (by omega))); (try (have : w.heap.size + 1 + 1 < w5.heap.size + 1 + 1 := (by omega))); (try (have : w.heap.size + 1 + 1 + 1 < w5.heap.size := (by omega))); (try (have : w.heap.size + 1 + 1 + 1 < w5.heap.size + 1 := (by omega))); (try (have : w.heap.size + 1 + 1 + 1 < w5.heap.size + 1 + 1 := (by omega))); (try (have : w4.heap.size < w5.heap.size := (by omega))); (try (have : w4.heap.size < w5.heap.size + 1 := (by omega))); (try (have : w4.heap.size < w5.heap.size + 1 + 1 := (by omega))); (try (have : w4.heap.size + 1 < w5.heap.size := (by omega))); (try (have : w4.heap.size + 1 < w5.heap.size + 1 := (by omega))); (try (have : w4.heap.size + 1 < w5.heap.size + 1 + 1 := (by omega))); (try (have : w4.heap.size + 1 + 1 < w5.heap.size := (by omega))); (try (have : w4.heap.size + 1 + 1 < w5.heap.size + 1 := (by omega))); (try (have : w4.heap.size + 1 + 1 < w5.heap.size + 1 + 1 := (by omega))); (try (have : w4.heap.size + 1 + 1 + 1 < w5.heap.size := (by omega))); (try (have : w4.heap.size + 1 + 1 + 1 < w5.heap.size + 1 := (by omega))); (try (have : w4.heap.size + 1 + 1 + 1 < w5.heap.size + 1 + 1 := (by omega)))
  have HO5 := Lib.hid hO5
  clear how5 hO5
  go_wp2_with fail
  refine (HSp.out _ _ _ HO5.out).mono ?_
  rintro e w6 ⟨rfl, hb6⟩
  have hc6 := (Free.cells_of hb6).1; have hf6 := (Free.cells_of hb6).2; have hz6 := hb6.size; (try simp only [World.size_alloc, World.size_setCell, World.size_drew] at hz6)
  (try (have : w.heap.size < w6.heap.size := (by omega))); (try (have : w.heap.size < w6.heap.size + 1 := (by omega))); (try (have : w.heap.size < w6.heap.size + 1 + 1 := (by omega))); (try (have : w.heap.size + 1 < w6.heap.size := (by omega))); (try (have : w.heap.size + 1 < w6.heap.size + 1 := (by omega))); (try (have : w.heap.size + 1 < w6.heap.size + 1 + 1 := (by omega))); (try (have : w.heap.size + 1 + 1 < w6.heap.size := (by omega))); (try (have : w.heap.size + 1 + 1 < w6.heap.size + 1 := (by omega))); (try (have : w.heap.size + 1 + 1 < w6.heap.size + 1 + 1 := (by omega))); (try (have : w.heap.size + 1 + 1 + 1 < w6.heap.size := (by omega))); (try (have : w.heap.size + 1 + 1 + 1 < w6.heap.size + 1 := (by omega))); (try (have : w.heap.size + 1 + 1 + 1 < w6.heap.size + 1 + 1 := (by omega))); (try (have : w4.heap.size < w6.heap.size := (by omega))); (try (have : w4.heap.size < w6.heap.size + 1 := (by omega))); (try (have : w4.heap.size < w6.heap.size + 1 + 1 := (by omega))); (try (have : w4.heap.size + 1 < w6.heap.size := (by omega))); (try (have : w4.heap.size + 1 < w6.heap.size + 1 := (by omega))); (try (have : w4.heap.size + 1 < w6.heap.size + 1 + 1 := (by omega))); (try (have : w4.heap.size + 1 + 1 < w6.heap.size := (by omega))); (try (have : w4.heap.size + 1 + 1 < w6.heap.size + 1 := (by omega))); (try (have : w4.heap.size + 1 + 1 < w6.heap.size + 1 + 1 := (by omega))); (try (have : w4.heap.size + 1 + 1 + 1 < w6.heap.size := (by omega))); (try (have : w4.heap.size + 1 + 1 + 1 < w6.heap.size + 1 := (by omega))); (try (have : w4.heap.size + 1 + 1 + 1 < w6.heap.size + 1 + 1 := (by omega)))
  go_wp2_with fail
  refine (HR'.out _ (HO.out.below (by repeat' first | with_reducible exact Below.refl _ _ | with_reducible assumption | with_reducible refine Free.Grow.alloc ?_ _ | with_reducible refine Free.Grow.setCell ?_ (by first | omega | (simp; done) | (simp; omega)) _ | with_reducible refine Free.Grow.drew ?_ | with_reducible refine Free.Grow.trans ?_ (by assumption)))).mono ?_
  rintro e w7 ⟨rfl, hb7⟩
  have hc7 := (Free.cells_of hb7).1; have hf7 := (Free.cells_of hb7).2; have hz7 := hb7.size; (try simp only [World.size_alloc, World.size_setCell, World.size_drew] at hz7)
  (try (have : w.heap.size < w7.heap.size := (by omega))); (try (have : w.heap.size < w7.heap.size + 1 := (by omega))); (try (have : w.heap.size < w7.heap.size + 1 + 1 := (by omega))); (try (have : w.heap.size + 1 < w7.heap.size := (by omega))); (try (have : w.heap.size + 1 < w7.heap.size + 1 := (by omega))); (try (have : w.heap.size + 1 < w7.heap.size + 1 + 1 := (by omega))); (try (have : w.heap.size + 1 + 1 < w7.heap.size := (by omega))); (try (have : w.heap.size + 1 + 1 < w7.heap.size + 1 := (by omega))); (try (have : w.heap.size + 1 + 1 < w7.heap.size + 1 + 1 := (by omega))); (try (have : w.heap.size + 1 + 1 + 1 < w7.heap.size := (by omega))); (try (have : w.heap.size + 1 + 1 + 1 < w7.heap.size + 1 := (by omega))); (try (have : w.heap.size + 1 + 1 + 1 < w7.heap.size + 1 + 1 := (by omega))); (try (have : w4.heap.size < w7.heap.size := (by omega))); (try (have : w4.heap.size < w7.heap.size + 1 := (by omega))); (try (have : w4.heap.size < w7.heap.size + 1 + 1 := (by omega))); (try (have : w4.heap.size + 1 < w7.heap.size := (by omega))); (try (have : w4.heap.size + 1 < w7.heap.size + 1 := (by omega))); (try (have : w4.heap.size + 1 < w7.heap.size + 1 + 1 := (by omega))); (try (have : w4.heap.size + 1 + 1 < w7.heap.size := (by omega))); (try (have : w4.heap.size + 1 + 1 < w7.heap.size + 1 := (by omega))); (try (have : w4.heap.size + 1 + 1 < w7.heap.size + 1 + 1 := (by omega))); (try (have : w4.heap.size + 1 + 1 + 1 < w7.heap.size := (by omega))); (try (have : w4.heap.size + 1 + 1 + 1 < w7.heap.size + 1 := (by omega))); (try (have : w4.heap.size + 1 + 1 + 1 < w7.heap.size + 1 + 1 := (by omega))); (try (have : w6.heap.size < w7.heap.size := (by omega))); (try (have : w6.heap.size < w7.heap.size + 1 := (by omega))); (try (have : w6.heap.size < w7.heap.size + 1 + 1 := (by omega))); (try (have : w6.heap.size + 1 < w7.heap.size := (by omega))); (try (have : w6.heap.size + 1 < w7.heap.size + 1 := (by omega))); (try (have : w6.heap.size + 1 < w7.heap.size + 1 + 1 := (by omega))); (try (have : w6.heap.size + 1 + 1 < w7.heap.size := (by omega))); (try (have : w6.heap.size + 1 + 1 < w7.heap.size + 1 := (by omega))); (try (have : w6.heap.size + 1 + 1 < w7.heap.size + 1 + 1 := (by omega))); (try (have : w6.heap.size + 1 + 1 + 1 < w7.heap.size := (by omega))); (try (have : w6.heap.size + 1 + 1 + 1 < w7.heap.size + 1 := (by omega))); (try (have : w6.heap.size + 1 + 1 + 1 < w7.heap.size + 1 + 1 := (by omega)))
  go_wp2_with (first | (go_at_call 21; refine (HW.out _).mono ?_; rintro e w' ⟨rfl, rfl⟩))
  refine Free.wp_region 10 #[0, 1, 3, 7, 7, 7, 55, 127, 255, 511] (by kernel_rfl) (by kernel_rfl) ?_
  simp only [List.take_succ_cons, List.take_zero]
  iterate 3
    refine Free.E.q (by rfl) ?_
    apply Exists.intro
    refine ⟨fun u w' hc hb => ?_, ?_⟩
    go_simp
    (try go_ints); (try simp only [Ob.ite_imx, Ob.ite_imn]); first | exact rfl | (go_simp; exact rfl) | ((go_at_call 48; exact HRS.out _ (HM.out.below (B := w.heap.size) (by repeat' first | with_reducible exact Below.refl _ _ | with_reducible assumption | with_reducible refine Free.Grow.alloc ?_ _ | with_reducible refine Free.Grow.setCell ?_ (by first | omega | (simp; done) | (simp; omega)) _ | with_reducible refine Free.Grow.drew ?_ | with_reducible refine Free.Grow.trans ?_ (by assumption)) hbw) (by have := hb.size; omega))) | (simp only [↓IntWalk.iteOmega]; (try go_simp); exact rfl)
    simp only [Act.put, List.setIfInBounds_toArray, List.set_cons_zero, List.set_cons_succ, List.nil_append, List.cons_append]
  iterate 5
    first
      | (refine Free.E.no ?_ ?_
         (intro _; rfl)
         simp only [Act.put, List.setIfInBounds_toArray, List.set_cons_zero, List.set_cons_succ, List.nil_append, List.cons_append])
      | (refine Free.E.qy ?_ ?_
         (intro _; rfl)
         apply Exists.intro
         refine ⟨fun u w' hc hb => ?_, ?_⟩
         go_simp
         (try go_ints); (try simp only [Ob.ite_imx, Ob.ite_imn]); first | exact rfl | (go_simp; exact rfl) | ((go_at_call 48; exact HRS.out _ (HM.out.below (B := w.heap.size) (by repeat' first | with_reducible exact Below.refl _ _ | with_reducible assumption | with_reducible refine Free.Grow.alloc ?_ _ | with_reducible refine Free.Grow.setCell ?_ (by first | omega | (simp; done) | (simp; omega)) _ | with_reducible refine Free.Grow.drew ?_ | with_reducible refine Free.Grow.trans ?_ (by assumption)) hbw) (by have := hb.size; omega))) | (simp only [↓IntWalk.iteOmega]; (try go_simp); exact rfl)
         simp only [Act.put, List.setIfInBounds_toArray, List.set_cons_zero, List.set_cons_succ, List.nil_append, List.cons_append])
  iterate 2
    refine Free.E.q (by rfl) ?_
    apply Exists.intro
    refine ⟨fun u w' hc hb => ?_, ?_⟩
    go_simp
    (try go_ints); (try simp only [Ob.ite_imx, Ob.ite_imn]); first | exact rfl | (go_simp; exact rfl) | ((go_at_call 48; exact HRS.out _ (HM.out.below (B := w.heap.size) (by repeat' first | with_reducible exact Below.refl _ _ | with_reducible assumption | with_reducible refine Free.Grow.alloc ?_ _ | with_reducible refine Free.Grow.setCell ?_ (by first | omega | (simp; done) | (simp; omega)) _ | with_reducible refine Free.Grow.drew ?_ | with_reducible refine Free.Grow.trans ?_ (by assumption)) hbw) (by have := hb.size; omega))) | (simp only [↓IntWalk.iteOmega]; (try go_simp); exact rfl)
    simp only [Act.put, List.setIfInBounds_toArray, List.set_cons_zero, List.set_cons_succ, List.nil_append, List.cons_append]
  refine Free.E.nil (fun u w8 S hF => ?_)
  have hb8 := hF.below
  clear hF
  have hc8 := (Free.cells_of hb8).1
  have hf8 := (Free.cells_of hb8).2
  have hz8 := hb8.size
  try simp only [World.size_alloc, World.size_setCell, World.size_drew] at hz8
  (try (have : w.heap.size < w8.heap.size := (by omega)))
  (try (have : w.heap.size < w8.heap.size + 1 := (by omega)))
  (try (have : w.heap.size < w8.heap.size + 1 + 1 := (by omega)))
  (try (have : w.heap.size + 1 < w8.heap.size := (by omega)))
  (try (have : w.heap.size + 1 < w8.heap.size + 1 := (by omega)))
  (try (have : w.heap.size + 1 < w8.heap.size + 1 + 1 := (by omega)))
  (try (have : w.heap.size + 1 + 1 < w8.heap.size := (by omega)))
  (try (have : w.heap.size + 1 + 1 < w8.heap.size + 1 := (by omega)))
  (try (have : w.heap.size + 1 + 1 < w8.heap.size + 1 + 1 := (by omega)))
  (try (have : w.heap.size + 1 + 1 + 1 < w8.heap.size := (by omega)))
  (try (have : w.heap.size + 1 + 1 + 1 < w8.heap.size + 1 := (by omega)))
  (try (have : w.heap.size + 1 + 1 + 1 < w8.heap.size + 1 + 1 := (by omega)))
  (try (have : w4.heap.size < w8.heap.size := (by omega)))
  (try (have : w4.heap.size < w8.heap.size + 1 := (by omega)))
  (try (have : w4.heap.size < w8.heap.size + 1 + 1 := (by omega)))
  (try (have : w4.heap.size + 1 < w8.heap.size := (by omega)))
  (try (have : w4.heap.size + 1 < w8.heap.size + 1 := (by omega)))
  (try (have : w4.heap.size + 1 < w8.heap.size + 1 + 1 := (by omega)))
  (try (have : w4.heap.size + 1 + 1 < w8.heap.size := (by omega)))
  (try (have : w4.heap.size + 1 + 1 < w8.heap.size + 1 := (by omega)))
  (try (have : w4.heap.size + 1 + 1 < w8.heap.size + 1 + 1 := (by omega)))
  (try (have : w4.heap.size + 1 + 1 + 1 < w8.heap.size := (by omega)))
  (try (have : w4.heap.size + 1 + 1 + 1 < w8.heap.size + 1 := (by omega)))
  (try (have : w4.heap.size + 1 + 1 + 1 < w8.heap.size + 1 + 1 := (by omega)))
  (try (have : w6.heap.size < w8.heap.size := (by omega)))
  (try (have : w6.heap.size < w8.heap.size + 1 := (by omega)))
  (try (have : w6.heap.size < w8.heap.size + 1 + 1 := (by omega)))
  (try (have : w6.heap.size + 1 < w8.heap.size := (by omega)))
  (try (have : w6.heap.size + 1 < w8.heap.size + 1 := (by omega)))
  (try (have : w6.heap.size + 1 < w8.heap.size + 1 + 1 := (by omega)))
  (try (have : w6.heap.size + 1 + 1 < w8.heap.size := (by omega)))
  (try (have : w6.heap.size + 1 + 1 < w8.heap.size + 1 := (by omega)))
  (try (have : w6.heap.size + 1 + 1 < w8.heap.size + 1 + 1 := (by omega)))
  (try (have : w6.heap.size + 1 + 1 + 1 < w8.heap.size := (by omega)))
  (try (have : w6.heap.size + 1 + 1 + 1 < w8.heap.size + 1 := (by omega)))
  (try (have : w6.heap.size + 1 + 1 + 1 < w8.heap.size + 1 + 1 := (by omega)))
  (try (have : w7.heap.size < w8.heap.size := (by omega)))
  (try (have : w7.heap.size < w8.heap.size + 1 := (by omega)))
  (try (have : w7.heap.size < w8.heap.size + 1 + 1 := (by omega)))
  (try (have : w7.heap.size + 1 < w8.heap.size := (by omega)))
  (try (have : w7.heap.size + 1 < w8.heap.size + 1 := (by omega)))
  (try (have : w7.heap.size + 1 < w8.heap.size + 1 + 1 := (by omega)))
  (try (have : w7.heap.size + 1 + 1 < w8.heap.size := (by omega)))
  (try (have : w7.heap.size + 1 + 1 < w8.heap.size + 1 := (by omega)))
  (try (have : w7.heap.size + 1 + 1 < w8.heap.size + 1 + 1 := (by omega)))
  (try (have : w7.heap.size + 1 + 1 + 1 < w8.heap.size := (by omega)))
  (try (have : w7.heap.size + 1 + 1 + 1 < w8.heap.size + 1 := (by omega)))
  (try (have : w7.heap.size + 1 + 1 + 1 < w8.heap.size + 1 + 1 := (by omega)))
  simp only [List.drop_succ_cons, List.drop_zero, List.drop_nil]
  go_wp2
  first | (go_ret; exact HR.out _ (by repeat' first | with_reducible exact Below.refl _ _ | with_reducible assumption | with_reducible refine Free.Grow.alloc ?_ _ | with_reducible refine Free.Grow.setCell ?_ (by first | omega | (simp; done) | (simp; omega)) _ | with_reducible refine Free.Grow.drew ?_ | with_reducible refine Free.Grow.trans ?_ (by assumption))) | exact HR.out _ (by repeat' first | with_reducible exact Below.refl _ _ | with_reducible assumption | with_reducible refine Free.Grow.alloc ?_ _ | with_reducible refine Free.Grow.setCell ?_ (by first | omega | (simp; done) | (simp; omega)) _ | with_reducible refine Free.Grow.drew ?_ | with_reducible refine Free.Grow.trans ?_ (by assumption))

theorem walk (nm : ByteArray) (bd k : Int) (a : Option Addr) (l : List St) (cap : Nat) (w : World) (hnm : nm.size ≤ maxLen) (hcap : l.length ≤ cap) (hcm : cap ≤ maxLen) (hS : SlSts w a l) :
    Calls Try.prog 10 #[obV nm bd a l.length cap, .int .i64 k] w fun e w' => e = .returned (.bool true) ∧ Below w.heap.size w w' := by
  simp only [maxLen] at hnm hcm
  cases hf : fewB nm.size l.length with
  | false => exact walk_few_no nm bd k a l.length cap w (by omega) (by omega) hf
  | true =>
    have hO : OrbIn w nm a cap l := ⟨by have := (fewB_spec hf).1; omega, hS, hcap, by omega⟩
    by_cases h : (orbE nm.data.toList bd l).2 = 0
    · cases ha : arcB l k with
      | false => exact walk_arc nm bd k a cap l w hO hf h ha
      | true => exact walk_ok nm bd k a cap l w hO hf h ha
    · exact walk_err nm bd k a cap l w hO hf h

set_option maxRecDepth 100000 in
theorem lifted (os : Os) (started : os.Started) (H : Type) (enc : TypeId × Value → H) :
    ReturnsInHanded {} Try.checked os 10 .any (Rows.orbitChecksSpec.pre6 enc Try.prog Try.f10 Rows.orbitChecksRow.domain false) (Rows.orbitChecksSpec.post enc Try.prog Try.f10 false true false false) := by
  refine returnsInHanded_of_change (C := Try.checked) own started (by kernel_rfl) Try.func10
    (ChangeSpec.witness6 (enc := enc) (C := Try.checked) false ⟨#[], #[.agg #[.string ⟨#[]⟩, .int .i64 0, .slice none 0 0], .int .i64 0], []⟩ 8 (by kernel_rfl) (by kernel_rfl) (by kernel_rfl) (by kernel_rfl)) ?_
  intro W base args ds gs before hval0 hW hcnd _
  have hval : ∀ (j : Nat) t v, Try.f10.params[j]? = some t → args[j]? = some v → Value.okWide Try.prog W .any base t v := hval0
  have hW' := hW
  obtain ⟨p, q, hA0, hV, rfl, hfz, hnd⟩ := hW
  have hA : DataW.TrodAll enc Try.prog W 0 (fun _ => true) true Try.f10.params.toList args.toList ds p := hA0
  rw [Try.params10] at hA hval
  obtain ⟨v0, vs0, d0, ds0, p0, q0, hargs, rfl, rfl, h0, r0⟩ := trodAll_cons hA
  obtain ⟨v1, vs1, d1, ds1, p1, q1, rfl, rfl, rfl, h1, r1⟩ := trodAll_cons r0
  obtain ⟨rfl, rfl, rfl⟩ := trodAll_nil r1
  obtain rfl : args = #[v0, v1] := by cases args; simp_all
  obtain ⟨rfl, rfl⟩ := trodVars_none hV
  clear hA0 hval0
  have hlt := hW'.lt
  have g0 := h0
  have g1 := h1
  obtain ⟨nm0, bd0, a0, l0, cap0, rfl, hnm0, hbd0, hcap0, hcm0, hS0⟩ := open_orbit (hval 0 24 v0 rfl rfl) h0
  obtain ⟨x1, rfl, -, -, wx1⟩ := open_int Try.underlying3 (hval 1 3 v1 rfl rfl) h1
  simp only [List.append_nil] at hW' hlt ⊢
  refine (walk nm0 bd0 x1 a0 l0 cap0 W hnm0 hcap0 hcm0 hS0).mono fun e W' ⟨he, hb⟩ => ?_
  subst he
  have stay : ∀ (t : TypeId) v d ps (sp : Nat → Bool), Try.prog.readableRec t = true → t < Try.prog.types.size → DataW.Trod enc Try.prog W 0 (fun _ => true) true t v d ps → (∀ x ∈ ps, x.block < W.heap.size) → (∀ x ∈ ps, sp x.block = true) → DataW.Trod enc Try.prog W' 0 sp true t v d ps :=
    fun t v d ps sp hr ht h hx hs => Go.WideElems.Trod_stays laid hr ht h (fun x hxp => hb.same (hx x hxp)) hs
  exact ⟨_, rfl, post_below (pa := p0 ++ (p1 ++ [])) (pv := []) hW' (fun _ _ _ => trodAll_mk1 (shut_bool Try.underlying4 true)) (fun sp hs => (trodAll_cons_mk (stay 24 _ _ _ sp (by kernel_rfl) (of_decide_eq_true (by kernel_rfl)) g0 (fun x hx => hlt x (by simp [hx])) (fun x hx => hs x (by simp [hx]))) (trodAll_cons_mk (stay 3 _ _ _ sp (by kernel_rfl) (of_decide_eq_true (by kernel_rfl)) g1 (fun x hx => hlt x (by simp [hx])) (fun x hx => hs x (by simp [hx]))) (trodAll_mk0)))) (fun _ _ => rfl) (by simp)
    hb (ok_one (by kernel_rfl) rfl (okWide_bool_mk Try.underlying4 true))⟩

theorem over : Rows.orbitChecksRow.holds Try.pinned (OpenSpec.ofChange Rows.orbitChecksSpec) :=
  OpenClaim.holds_of_wide 10 Try.f10 rfl rfl rfl rfl rfl rfl rfl ⟨rfl, rfl, rfl, rfl, rfl⟩ rfl rfl rfl rfl rfl (by kernel_rfl) Try.func10 (by kernel_rfl)
    (of_decide_eq_true (by kernel_rfl)) (by unfold Func.isWrapper; first | (rw [if_pos (by decide +kernel)]; kernel_rfl) | (rw [if_neg (by decide +kernel)]; exact ⟨rfl, rfl⟩))
    (fun os started H enc _ => lifted os started H enc)

/-- The statement. -/
theorem proved : Rows.OrbitChecksSaid := over
#print axioms proved
end Go.Proofs.Ytaoennekamlfeaa.OrbitChecks
