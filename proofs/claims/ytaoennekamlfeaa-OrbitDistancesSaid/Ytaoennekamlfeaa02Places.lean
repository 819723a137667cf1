/- OrbitPlaces holds: for every orbit and tick Nominal and BoxAt return what the reference does, or the errors; the nominal place lies in the box. -/
import Derived.Test.Ytaoennekamlfeaa02E
import Derived.Test.Ytaoennekamlfeaa02Claim
set_option linter.unusedSimpArgs false
set_option linter.unusedVariables false
namespace Go.Proofs.Ytaoennekamlfeaa.OrbitPlaces
open Go.ChangeShapes Go.WideShapes Go.ChangeAt Go.RowKit Go.Ob Go.Proofs.Ytaoennekamlfeaa

theorem rd_in {n off d : Int} (hd : 1 ≤ d) (ho : 0 ≤ off) : dn n off d ≤ rd n d ∧ rd n d ≤ up n off d := by
  unfold dn rd up
  have h1 := Int.mul_ediv_add_emod (n - off) d
  have h2 := Int.emod_nonneg (n - off) (show d ≠ 0 by omega)
  have h2' := Int.emod_lt_of_pos (n - off) (show 0 < d by omega)
  have h3 := Int.mul_ediv_add_emod (-(n + off)) d
  have h4 := Int.emod_nonneg (-(n + off)) (show d ≠ 0 by omega)
  have h4' := Int.emod_lt_of_pos (-(n + off)) (show 0 < d by omega)
  have h5 := Int.mul_ediv_add_emod (2 * n + d) (2 * d)
  have h6 := Int.emod_nonneg (2 * n + d) (show 2 * d ≠ 0 by omega)
  have h6' := Int.emod_lt_of_pos (2 * n + d) (show 0 < 2 * d by omega)
  generalize (n - off) / d = q1 at *
  generalize -(n + off) / d = q2 at *
  generalize (2 * n + d) / (2 * d) = q3 at *
  have e3 : 2 * d * q3 = 2 * (d * q3) := by rw [Int.mul_assoc]
  rw [e3] at h5
  constructor
  · rcases Int.lt_or_le q3 q1 with h | h
    · have := Int.mul_le_mul_of_nonneg_left (show q3 + 1 ≤ q1 by omega) (show 0 ≤ d by omega)
      rw [Int.mul_add] at this
      omega
    · exact h
  · rcases Int.lt_or_le (-q2) q3 with h | h
    · have := Int.mul_le_mul_of_nonneg_left (show -q2 + 1 ≤ q3 by omega) (show 0 ≤ d by omega)
      rw [Int.mul_add, Int.mul_neg] at this
      omega
    · exact h

theorem nom_in {bd : Int} {l : List St} (hR : Right bd l) {t : Int} (h0 : frstT l ≤ t) (h1 : t ≤ lastT l) :
    (rngB (nom l t).x (bx bd l t).l0 (bx bd l t).h0 = true ∧ rngB (nom l t).y (bx bd l t).l1 (bx bd l t).h1 = true) ∧ rngB (nom l t).z (bx bd l t).l2 (bx bd l t).h2 = true := by
  have hk := pt_ok hR h0 h1
  have ho := offP_bd hk hR.b0 hR.b1
  rw [rngB_true, rngB_true, rngB_true]
  exact ⟨⟨rd_in hk.o0 ho.2.2.1, rd_in hk.o0 ho.2.2.1⟩, rd_in hk.o0 ho.2.2.1⟩

set_option maxRecDepth 100000 in
set_option maxHeartbeats 4000000 in
theorem walk_few_no (nm : ByteArray) (bd t : Int) (a : Option Addr) (n cap : Nat) (w : World) (hn : (n : Int) ≤ 9223372036854775807) (hnm : (nm.size : Int) ≤ 9223372036854775807) (hf : fewB nm.size n = false) :
    Calls Try.prog 4 #[obV nm bd a n cap, .int .i64 t] w fun e w' => e = .returned (.bool true) ∧ Below w.heap.size w w' := by
  have HF := Lib.hid (fun w' => Few_any nm bd a n cap w' hn hnm)
  rw [hf] at HF
  clear hf
  refine Calls.made fun R HR => ?_
  go_enter Try.func4, Try.ntmps4
  go_wp2_with (first | (go_at_call 15; refine (awake_any _).mono ?_; rintro e w1 ⟨rfl, hb1⟩; have hc1 := (Free.cells_of hb1).1; have hf1 := (Free.cells_of hb1).2; have hz1 := hb1.size; (try simp only [World.size_alloc, World.size_setCell, World.size_drew] at hz1); (try (have : w.heap.size < w1.heap.size := (by omega))); (try (have : w.heap.size < w1.heap.size + 1 := (by omega))); (try (have : w.heap.size < w1.heap.size + 1 + 1 := (by omega))); (try (have : w.heap.size + 1 < w1.heap.size := (by omega))); (try (have : w.heap.size + 1 < w1.heap.size + 1 := (by omega))); (try (have : w.heap.size + 1 < w1.heap.size + 1 + 1 := (by omega))); (try (have : w.heap.size + 1 + 1 < w1.heap.size := (by omega))); (try (have : w.heap.size + 1 + 1 < w1.heap.size + 1 := (by omega))); (try (have : w.heap.size + 1 + 1 < w1.heap.size + 1 + 1 := (by omega))); (try (have : w.heap.size + 1 + 1 + 1 < w1.heap.size := (by omega))); (try (have : w.heap.size + 1 + 1 + 1 < w1.heap.size + 1 := (by omega))); (try (have : w.heap.size + 1 + 1 + 1 < w1.heap.size + 1 + 1 := (by omega)))) | (go_at_call 25; refine (HF.out _).mono ?_; rintro e w2 ⟨rfl, hb2⟩; have hc2 := (Free.cells_of hb2).1; have hf2 := (Free.cells_of hb2).2; have hz2 := hb2.size; (try simp only [World.size_alloc, World.size_setCell, World.size_drew] at hz2); (try (have : w.heap.size < w2.heap.size := (by omega))); (try (have : w.heap.size < w2.heap.size + 1 := (by omega))); (try (have : w.heap.size < w2.heap.size + 1 + 1 := (by omega))); (try (have : w.heap.size + 1 < w2.heap.size := (by omega))); (try (have : w.heap.size + 1 < w2.heap.size + 1 := (by omega))); (try (have : w.heap.size + 1 < w2.heap.size + 1 + 1 := (by omega))); (try (have : w.heap.size + 1 + 1 < w2.heap.size := (by omega))); (try (have : w.heap.size + 1 + 1 < w2.heap.size + 1 := (by omega))); (try (have : w.heap.size + 1 + 1 < w2.heap.size + 1 + 1 := (by omega))); (try (have : w.heap.size + 1 + 1 + 1 < w2.heap.size := (by omega))); (try (have : w.heap.size + 1 + 1 + 1 < w2.heap.size + 1 := (by omega))); (try (have : w.heap.size + 1 + 1 + 1 < w2.heap.size + 1 + 1 := (by omega)))))
  first | (go_ret; exact HR.out _ (by repeat' first | with_reducible exact Below.refl _ _ | with_reducible assumption | with_reducible refine Free.Grow.alloc ?_ _ | with_reducible refine Free.Grow.setCell ?_ (by first | omega | (simp; done) | (simp; omega)) _ | with_reducible refine Free.Grow.drew ?_ | with_reducible refine Free.Grow.trans ?_ (by assumption))) | exact HR.out _ (by repeat' first | with_reducible exact Below.refl _ _ | with_reducible assumption | with_reducible refine Free.Grow.alloc ?_ _ | with_reducible refine Free.Grow.setCell ?_ (by first | omega | (simp; done) | (simp; omega)) _ | with_reducible refine Free.Grow.drew ?_ | with_reducible refine Free.Grow.trans ?_ (by assumption))

set_option maxRecDepth 100000 in
set_option maxHeartbeats 8000000 in
theorem walk_err (nm : ByteArray) (bd t : Int) (a : Option Addr) (cap : Nat) (l : List St) (w : World) (hO : OrbIn w nm a cap l) (hf : fewB nm.size l.length = true) (h : atE nm.data.toList bd l t ≠ 0) :
    Calls Try.prog 4 #[obV nm bd a l.length cap, .int .i64 t] w fun e w' => e = .returned (.bool true) ∧ Below w.heap.size w w' := by
  have HF := Lib.hid (fun w' => Few_any nm bd a l.length cap w' hO.len (by have := hO.nm; omega))
  rw [hf] at HF
  have h40 := (fewB_spec hf).2
  have HC := Lib.hid (fun w' (h : OrbIn w' nm a cap l) => Copy_any nm bd a cap l w' h (by omega))
  have HNO : nomOr nm.data.toList bd l t = ⟨0, 0, 0⟩ := by unfold nomOr; rw [if_neg h]
  have HBO : bxOr nm.data.toList bd l t = ⟨0, 0, 0, 0, 0, 0⟩ := by unfold bxOr; rw [if_neg h]
  have HN := Lib.hid (fun w' (g c : Nat) (h : OrbIn w' nm (some ⟨g, 0, none⟩) c l) => Nominal_any nm bd t (some ⟨g, 0, none⟩) c l w' h)
  have HB := Lib.hid (fun w' (g c : Nat) (h : OrbIn w' nm (some ⟨g, 0, none⟩) c l) => BoxAt_any nm bd t (some ⟨g, 0, none⟩) c l w' h)
  rw [HNO] at HN
  rw [HBO] at HB
  have HT := Lib.hid (fun w' (h : OrbIn w' nm a cap l) => tickErr_any nm bd t a cap l w' h)
  have hb0 : (atE nm.data.toList bd l t != 0) = true := by simpa using h
  have HO := Lib.hid hO
  clear h hO hf HNO HBO
  generalize atE nm.data.toList bd l t = c at *
  refine Calls.made fun R HR => ?_
  go_enter Try.func4, Try.ntmps4
  go_wp2_with (first | (go_at_call 15; refine (awake_any _).mono ?_; rintro e w1 ⟨rfl, hb1⟩; have hc1 := (Free.cells_of hb1).1; have hf1 := (Free.cells_of hb1).2; have hz1 := hb1.size; (try simp only [World.size_alloc, World.size_setCell, World.size_drew] at hz1); (try (have : w.heap.size < w1.heap.size := (by omega))); (try (have : w.heap.size < w1.heap.size + 1 := (by omega))); (try (have : w.heap.size < w1.heap.size + 1 + 1 := (by omega))); (try (have : w.heap.size + 1 < w1.heap.size := (by omega))); (try (have : w.heap.size + 1 < w1.heap.size + 1 := (by omega))); (try (have : w.heap.size + 1 < w1.heap.size + 1 + 1 := (by omega))); (try (have : w.heap.size + 1 + 1 < w1.heap.size := (by omega))); (try (have : w.heap.size + 1 + 1 < w1.heap.size + 1 := (by omega))); (try (have : w.heap.size + 1 + 1 < w1.heap.size + 1 + 1 := (by omega))); (try (have : w.heap.size + 1 + 1 + 1 < w1.heap.size := (by omega))); (try (have : w.heap.size + 1 + 1 + 1 < w1.heap.size + 1 := (by omega))); (try (have : w.heap.size + 1 + 1 + 1 < w1.heap.size + 1 + 1 := (by omega)))) | (go_at_call 25; refine (HF.out _).mono ?_; rintro e w2 ⟨rfl, hb2⟩; have hc2 := (Free.cells_of hb2).1; have hf2 := (Free.cells_of hb2).2; have hz2 := hb2.size; (try simp only [World.size_alloc, World.size_setCell, World.size_drew] at hz2); (try (have : w.heap.size < w2.heap.size := (by omega))); (try (have : w.heap.size < w2.heap.size + 1 := (by omega))); (try (have : w.heap.size < w2.heap.size + 1 + 1 := (by omega))); (try (have : w.heap.size + 1 < w2.heap.size := (by omega))); (try (have : w.heap.size + 1 < w2.heap.size + 1 := (by omega))); (try (have : w.heap.size + 1 < w2.heap.size + 1 + 1 := (by omega))); (try (have : w.heap.size + 1 + 1 < w2.heap.size := (by omega))); (try (have : w.heap.size + 1 + 1 < w2.heap.size + 1 := (by omega))); (try (have : w.heap.size + 1 + 1 < w2.heap.size + 1 + 1 := (by omega))); (try (have : w.heap.size + 1 + 1 + 1 < w2.heap.size := (by omega))); (try (have : w.heap.size + 1 + 1 + 1 < w2.heap.size + 1 := (by omega))); (try (have : w.heap.size + 1 + 1 + 1 < w2.heap.size + 1 + 1 := (by omega)))))
  go_wp2_with fail
  refine (HC.out _ (HO.out.below (by repeat' first | with_reducible exact Below.refl _ _ | with_reducible assumption | with_reducible refine Free.Grow.alloc ?_ _ | with_reducible refine Free.Grow.setCell ?_ (by first | omega | (simp; done) | (simp; omega)) _ | with_reducible refine Free.Grow.drew ?_ | with_reducible refine Free.Grow.trans ?_ (by assumption)))).mono ?_
  rintro e w3 ⟨g3, cap3, rfl, hb3, how3, hO3⟩
  have hc3 := (Free.cells_of hb3).1; have hf3 := (Free.cells_of hb3).2; have hz3 := hb3.size; (try simp only [World.size_alloc, World.size_setCell, World.size_drew] at hz3)
  (try (have : w.heap.size < w3.heap.size := (by omega))); (try (have : w.heap.size < w3.heap.size + 1 := (by omega))); (try (have : w.heap.size < w3.heap.size + 1 + 1 := (by omega))); (try (have : w.heap.size + 1 < w3.heap.size := (by omega))); (try (have : w.heap.size + 1 < w3.heap.size + 1 := (by omega))); (try (have : w.heap.size + 1 < w3.heap.size + 1 + 1 := (by omega))); (try (have : w.heap.size + 1 + 1 < w3.heap.size := (by omega))); (try (have : w.heap.size + 1 + 1 < w3.heap.size + 1 := (by omega))); (try (have : w.heap.size + 1 + 1 < w3.heap.size + 1 + 1 := (by omega))); (try (have : w.heap.size + 1 + 1 + 1 < w3.heap.size := (by omega))); (try (have : w.heap.size + 1 + 1 + 1 < w3.heap.size + 1 := (by omega))); (try (have : w.heap.size + 1 + 1 + 1 < w3.heap.size + 1 + 1 := (by omega)))
  have HO3 := Lib.hid hO3
  clear how3 hO3
  go_wp2_with fail
  refine (HN.out _ _ _ HO3.out).mono ?_
  rintro e w4 ⟨rfl, hb4⟩
  have hc4 := (Free.cells_of hb4).1; have hf4 := (Free.cells_of hb4).2; have hz4 := hb4.size; (try simp only [World.size_alloc, World.size_setCell, World.size_drew] at hz4)
  (try (have : w.heap.size < w4.heap.size := (by omega))); (try (have : w.heap.size < w4.heap.size + 1 := (by omega))); (try (have : w.heap.size < w4.heap.size + 1 + 1 := (by omega))); (try (have : w.heap.size + 1 < w4.heap.size := (by omega))); (try (have : w.heap.size + 1 < w4.heap.size + 1 := (by omega))); (try (have : w.heap.size + 1 < w4.heap.size + 1 + 1 := (by omega))); (try (have : w.heap.size + 1 + 1 < w4.heap.size := (by omega))); (try (have : w.heap.size + 1 + 1 < w4.heap.size + 1 := (by omega))); (try (have : w.heap.size + 1 + 1 < w4.heap.size + 1 + 1 := (by omega))); (try (have : w.heap.size + 1 + 1 + 1 < w4.heap.size := (by omega))); (try (have : w.heap.size + 1 + 1 + 1 < w4.heap.size + 1 := (by omega))); (try (have : w.heap.size + 1 + 1 + 1 < w4.heap.size + 1 + 1 := (by omega)))
  go_wp2_with fail
  refine (HC.out _ (HO.out.below (by repeat' first | with_reducible exact Below.refl _ _ | with_reducible assumption | with_reducible refine Free.Grow.alloc ?_ _ | with_reducible refine Free.Grow.setCell ?_ (by first | omega | (simp; done) | (simp; omega)) _ | with_reducible refine Free.Grow.drew ?_ | with_reducible refine Free.Grow.trans ?_ (by assumption)))).mono ?_
  rintro e w5 ⟨g5, cap5, rfl, hb5, how5, hO5⟩
  have hc5 := (Free.cells_of hb5).1; have hf5 := (Free.cells_of hb5).2; have hz5 := hb5.size; (try simp only [World.size_alloc, World.size_setCell, World.size_drew] at hz5)
  (try (have : w.heap.size < w5.heap.size := (by omega))); (try (have : w.heap.size < w5.heap.size + 1 := (by omega))); (try (have : w.heap.size < w5.heap.size + 1 + 1 := (by omega))); (try (have : w.heap.size + 1 < w5.heap.size := (by omega))); (try (have : w.heap.size + 1 < w5.heap.size + 1 := (by omega))); (try (have : w.heap.size + 1 < w5.heap.size + 1 + 1 := (by omega))); (try (have : w.heap.size + 1 + 1 < w5.heap.size := (by omega))); (try (have : w.heap.size + 1 + 1 < w5.heap.size + 1 := (by omega))); (try (have : w.heap.size + 1 + 1 < w5.heap.size + 1 + 1 := (by omega))); (try (have : w.heap.size + 1 + 1 + 1 < w5.heap.size := (by omega))); (try (have : w.heap.size + 1 + 1 + 1 < w5.heap.size + 1 := (by omega))); (try (have : w.heap.size + 1 + 1 + 1 < w5.heap.size + 1 + 1 := (by omega))); (try (have : w4.heap.size < w5.heap.size := (by omega))); (try (have : w4.heap.size < w5.heap.size + 1 := (by omega))); (try (have : w4.heap.size < w5.heap.size + 1 + 1 := (by omega))); (try (have : w4.heap.size + 1 < w5.heap.size := (by omega))); (try (have : w4.heap.size + 1 < w5.heap.size + 1 := (by omega))); (try (have : w4.heap.size + 1 < w5.heap.size + 1 + 1 := (by omega))); (try (have : w4.heap.size + 1 + 1 < w5.heap.size := (by omega))); (try (have : w4.heap.size + 1 + 1 < w5.heap.size + 1 := (by omega))); (try (have : w4.heap.size + 1 + 1 < w5.heap.size + 1 + 1 := (by omega))); (try (have : w4.heap.size + 1 + 1 + 1 < w5.heap.size := (by omega))); (try (have : w4.heap.size + 1 + 1 + 1 < w5.heap.size + 1 := (by omega))); (try (have : w4.heap.size + 1 + 1 + 1 < w5.heap.size + 1 + 1 := (by omega)))
  have HO5 := Lib.hid hO5
  clear how5 hO5
  go_wp2_with fail
  refine (HB.out _ _ _ HO5.out).mono ?_
  rintro e w6 ⟨rfl, hb6⟩
  have hc6 := (Free.cells_of hb6).1; have hf6 := (Free.cells_of hb6).2; have hz6 := hb6.size; (try simp only [World.size_alloc, World.size_setCell, World.size_drew] at hz6)
  (try (have : w.heap.size < w6.heap.size := (by omega))); (try (have : w.heap.size < w6.heap.size + 1 := (by omega))); (try (have : w.heap.size < w6.heap.size + 1 + 1 := (by omega))); (try (have : w.heap.size + 1 < w6.heap.size := (by omega))); (try (have : w.heap.size + 1 < w6.heap.size + 1 := (by omega))); (try (have : w.heap.size + 1 < w6.heap.size + 1 + 1 := (by omega))); (try (have : w.heap.size + 1 + 1 < w6.heap.size := (by omega))); (try (have : w.heap.size + 1 + 1 < w6.heap.size + 1 := (by omega))); (try (have : w.heap.size + 1 + 1 < w6.heap.size + 1 + 1 := (by omega))); (try (have : w.heap.size + 1 + 1 + 1 < w6.heap.size := (by omega))); (try (have : w.heap.size + 1 + 1 + 1 < w6.heap.size + 1 := (by omega))); (try (have : w.heap.size + 1 + 1 + 1 < w6.heap.size + 1 + 1 := (by omega))); (try (have : w4.heap.size < w6.heap.size := (by omega))); (try (have : w4.heap.size < w6.heap.size + 1 := (by omega))); (try (have : w4.heap.size < w6.heap.size + 1 + 1 := (by omega))); (try (have : w4.heap.size + 1 < w6.heap.size := (by omega))); (try (have : w4.heap.size + 1 < w6.heap.size + 1 := (by omega))); (try (have : w4.heap.size + 1 < w6.heap.size + 1 + 1 := (by omega))); (try (have : w4.heap.size + 1 + 1 < w6.heap.size := (by omega))); (try (have : w4.heap.size + 1 + 1 < w6.heap.size + 1 := (by omega))); (try (have : w4.heap.size + 1 + 1 < w6.heap.size + 1 + 1 := (by omega))); (try (have : w4.heap.size + 1 + 1 + 1 < w6.heap.size := (by omega))); (try (have : w4.heap.size + 1 + 1 + 1 < w6.heap.size + 1 := (by omega))); (try (have : w4.heap.size + 1 + 1 + 1 < w6.heap.size + 1 + 1 := (by omega)))
  go_wp2_with fail
  refine (HT.out _ (HO.out.below (by repeat' first | with_reducible exact Below.refl _ _ | with_reducible assumption | with_reducible refine Free.Grow.alloc ?_ _ | with_reducible refine Free.Grow.setCell ?_ (by first | omega | (simp; done) | (simp; omega)) _ | with_reducible refine Free.Grow.drew ?_ | with_reducible refine Free.Grow.trans ?_ (by assumption)))).mono ?_
  rintro e w7 ⟨rfl, hb7⟩
  have hc7 := (Free.cells_of hb7).1; have hf7 := (Free.cells_of hb7).2; have hz7 := hb7.size; (try simp only [World.size_alloc, World.size_setCell, World.size_drew] at hz7)
  (try (have : w.heap.size < w7.heap.size := (by omega))); (try (have : w.heap.size < w7.heap.size + 1 := (by omega))); (try (have : w.heap.size < w7.heap.size + 1 + 1 := (by omega))); (try (have : w.heap.size + 1 < w7.heap.size := (by omega))); (try (have : w.heap.size + 1 < w7.heap.size + 1 := (by omega))); (try (have : w.heap.size + 1 < w7.heap.size + 1 + 1 := (by omega))); (try (have : w.heap.size + 1 + 1 < w7.heap.size := (by omega))); (try (have : w.heap.size + 1 + 1 < w7.heap.size + 1 := (by omega))); (try (have : w.heap.size + 1 + 1 < w7.heap.size + 1 + 1 := (by omega))); (try (have : w.heap.size + 1 + 1 + 1 < w7.heap.size := (by omega))); (try (have : w.heap.size + 1 + 1 + 1 < w7.heap.size + 1 := (by omega))); (try (have : w.heap.size + 1 + 1 + 1 < w7.heap.size + 1 + 1 := (by omega))); (try (have : w4.heap.size < w7.heap.size := (by omega))); (try (have : w4.heap.size < w7.heap.size + 1 := (by omega))); (try (have : w4.heap.size < w7.heap.size + 1 + 1 := (by omega))); (try (have : w4.heap.size + 1 < w7.heap.size := (by omega))); (try (have : w4.heap.size + 1 < w7.heap.size + 1 := (by omega))); (try (have : w4.heap.size + 1 < w7.heap.size + 1 + 1 := (by omega))); (try (have : w4.heap.size + 1 + 1 < w7.heap.size := (by omega))); (try (have : w4.heap.size + 1 + 1 < w7.heap.size + 1 := (by omega))); (try (have : w4.heap.size + 1 + 1 < w7.heap.size + 1 + 1 := (by omega))); (try (have : w4.heap.size + 1 + 1 + 1 < w7.heap.size := (by omega))); (try (have : w4.heap.size + 1 + 1 + 1 < w7.heap.size + 1 := (by omega))); (try (have : w4.heap.size + 1 + 1 + 1 < w7.heap.size + 1 + 1 := (by omega))); (try (have : w6.heap.size < w7.heap.size := (by omega))); (try (have : w6.heap.size < w7.heap.size + 1 := (by omega))); (try (have : w6.heap.size < w7.heap.size + 1 + 1 := (by omega))); (try (have : w6.heap.size + 1 < w7.heap.size := (by omega))); (try (have : w6.heap.size + 1 < w7.heap.size + 1 := (by omega))); (try (have : w6.heap.size + 1 < w7.heap.size + 1 + 1 := (by omega))); (try (have : w6.heap.size + 1 + 1 < w7.heap.size := (by omega))); (try (have : w6.heap.size + 1 + 1 < w7.heap.size + 1 := (by omega))); (try (have : w6.heap.size + 1 + 1 < w7.heap.size + 1 + 1 := (by omega))); (try (have : w6.heap.size + 1 + 1 + 1 < w7.heap.size := (by omega))); (try (have : w6.heap.size + 1 + 1 + 1 < w7.heap.size + 1 := (by omega))); (try (have : w6.heap.size + 1 + 1 + 1 < w7.heap.size + 1 + 1 := (by omega)))
  go_wp2
  first | (go_ret; exact HR.out _ (by repeat' first | with_reducible exact Below.refl _ _ | with_reducible assumption | with_reducible refine Free.Grow.alloc ?_ _ | with_reducible refine Free.Grow.setCell ?_ (by first | omega | (simp; done) | (simp; omega)) _ | with_reducible refine Free.Grow.drew ?_ | with_reducible refine Free.Grow.trans ?_ (by assumption))) | exact HR.out _ (by repeat' first | with_reducible exact Below.refl _ _ | with_reducible assumption | with_reducible refine Free.Grow.alloc ?_ _ | with_reducible refine Free.Grow.setCell ?_ (by first | omega | (simp; done) | (simp; omega)) _ | with_reducible refine Free.Grow.drew ?_ | with_reducible refine Free.Grow.trans ?_ (by assumption))

set_option maxRecDepth 100000 in
set_option maxHeartbeats 8000000 in
theorem walk_ok (nm : ByteArray) (bd t : Int) (a : Option Addr) (cap : Nat) (l : List St) (w : World) (hO : OrbIn w nm a cap l) (hf : fewB nm.size l.length = true) (h : atE nm.data.toList bd l t = 0) :
    Calls Try.prog 4 #[obV nm bd a l.length cap, .int .i64 t] w fun e w' => e = .returned (.bool true) ∧ Below w.heap.size w w' := by
  have HF := Lib.hid (fun w' => Few_any nm bd a l.length cap w' hO.len (by have := hO.nm; omega))
  rw [hf] at HF
  have h40 := (fewB_spec hf).2
  obtain ⟨hR, h0, h1⟩ := atE_zero h
  obtain ⟨b, off, rfl, hbw, hmem⟩ := hO.mem hR
  have HC := Lib.hid (fun w' (h : OrbIn w' nm (some ⟨b, off, none⟩) cap l) => Copy_any nm bd (some ⟨b, off, none⟩) cap l w' h (by omega))
  have HNO : nomOr nm.data.toList bd l t = nom l t := by unfold nomOr; rw [if_pos h]
  have HBO : bxOr nm.data.toList bd l t = bx bd l t := by unfold bxOr; rw [if_pos h]
  have HN := Lib.hid (fun w' (g c : Nat) (h : OrbIn w' nm (some ⟨g, 0, none⟩) c l) => Nominal_any nm bd t (some ⟨g, 0, none⟩) c l w' h)
  have HB := Lib.hid (fun w' (g c : Nat) (h : OrbIn w' nm (some ⟨g, 0, none⟩) c l) => BoxAt_any nm bd t (some ⟨g, 0, none⟩) c l w' h)
  rw [HNO] at HN
  rw [HBO] at HB
  have HT := Lib.hid (fun w' (h : OrbIn w' nm (some ⟨b, off, none⟩) cap l) => tickErr_any nm bd t (some ⟨b, off, none⟩) cap l w' h)
  have HRN := Lib.hid (fun w' (hS : HasSts w' b off l) (hb : b < w'.heap.size) => rNominal_any nm bd t b off cap l w' hR h0 h1 hS hb)
  have HRB := Lib.hid (fun w' (hS : HasSts w' b off l) (hb : b < w'.heap.size) => rBoxAt_any nm bd t b off cap l w' hR h0 h1 hS hb)
  rw [(same_place hR h0 h1).1] at HRN
  rw [(same_place hR h0 h1).2] at HRB
  have hin := nom_in hR h0 h1
  have HO := Lib.hid hO
  have HM := Lib.hid hmem
  rw [h] at HN HB HT
  clear h hO hf HNO HBO hR h0 h1 hmem
  generalize nom l t = p at *
  generalize bx bd l t = q at *
  obtain ⟨px, py, pz⟩ := p
  obtain ⟨q0, q1, q2, q3, q4, q5⟩ := q
  obtain ⟨⟨hi0, hi1⟩, hi2⟩ := hin
  simp only [p3V, bxV] at hi0 hi1 hi2 HN HB HRN HRB
  have HI0 := Lib.hid (fun w => rWithin_any px q0 q1 w)
  have HI1 := Lib.hid (fun w => rWithin_any py q2 q3 w)
  have HI2 := Lib.hid (fun w => rWithin_any pz q4 q5 w)
  rw [hi0] at HI0
  rw [hi1] at HI1
  rw [hi2] at HI2
  clear hi0 hi1 hi2
  refine Calls.made fun R HR => ?_
  go_enter Try.func4, Try.ntmps4
  go_wp2_with (first | (go_at_call 15; refine (awake_any _).mono ?_; rintro e w1 ⟨rfl, hb1⟩; have hc1 := (Free.cells_of hb1).1; have hf1 := (Free.cells_of hb1).2; have hz1 := hb1.size; (try simp only [World.size_alloc, World.size_setCell, World.size_drew] at hz1); (try (have : w.heap.size < w1.heap.size := (by omega))); (try (have : w.heap.size < w1.heap.size + 1 := (by omega))); (try (have : w.heap.size < w1.heap.size + 1 + 1 := (by omega))); (try (have : w.heap.size + 1 < w1.heap.size := (by omega))); (try (have : w.heap.size + 1 < w1.heap.size + 1 := (by omega))); (try (have : w.heap.size + 1 < w1.heap.size + 1 + 1 := (by omega))); (try (have : w.heap.size + 1 + 1 < w1.heap.size := (by omega))); (try (have : w.heap.size + 1 + 1 < w1.heap.size + 1 := (by omega))); (try (have : w.heap.size + 1 + 1 < w1.heap.size + 1 + 1 := (by omega))); (try (have : w.heap.size + 1 + 1 + 1 < w1.heap.size := (by omega))); (try (have : w.heap.size + 1 + 1 + 1 < w1.heap.size + 1 := (by omega))); (try (have : w.heap.size + 1 + 1 + 1 < w1.heap.size + 1 + 1 := (by omega)))) | (go_at_call 25; refine (HF.out _).mono ?_; rintro e w2 ⟨rfl, hb2⟩; have hc2 := (Free.cells_of hb2).1; have hf2 := (Free.cells_of hb2).2; have hz2 := hb2.size; (try simp only [World.size_alloc, World.size_setCell, World.size_drew] at hz2); (try (have : w.heap.size < w2.heap.size := (by omega))); (try (have : w.heap.size < w2.heap.size + 1 := (by omega))); (try (have : w.heap.size < w2.heap.size + 1 + 1 := (by omega))); (try (have : w.heap.size + 1 < w2.heap.size := (by omega))); (try (have : w.heap.size + 1 < w2.heap.size + 1 := (by omega))); (try (have : w.heap.size + 1 < w2.heap.size + 1 + 1 := (by omega))); (try (have : w.heap.size + 1 + 1 < w2.heap.size := (by omega))); (try (have : w.heap.size + 1 + 1 < w2.heap.size + 1 := (by omega))); (try (have : w.heap.size + 1 + 1 < w2.heap.size + 1 + 1 := (by omega))); (try (have : w.heap.size + 1 + 1 + 1 < w2.heap.size := (by omega))); (try (have : w.heap.size + 1 + 1 + 1 < w2.heap.size + 1 := (by omega))); (try (have : w.heap.size + 1 + 1 + 1 < w2.heap.size + 1 + 1 := (by omega)))))
  go_wp2_with fail
  refine (HC.out _ (HO.out.below (by repeat' first | with_reducible exact Below.refl _ _ | with_reducible assumption | with_reducible refine Free.Grow.alloc ?_ _ | with_reducible refine Free.Grow.setCell ?_ (by first | omega | (simp; done) | (simp; omega)) _ | with_reducible refine Free.Grow.drew ?_ | with_reducible refine Free.Grow.trans ?_ (by assumption)))).mono ?_
  rintro e w3 ⟨g3, cap3, rfl, hb3, how3, hO3⟩
  have hc3 := (Free.cells_of hb3).1; have hf3 := (Free.cells_of hb3).2; have hz3 := hb3.size; (try simp only [World.size_alloc, World.size_setCell, World.size_drew] at hz3)
  (try (have : w.heap.size < w3.heap.size := (by omega))); (try (have : w.heap.size < w3.heap.size + 1 := (by omega))); (try (have : w.heap.size < w3.heap.size + 1 + 1 := (by omega))); (try (have : w.heap.size + 1 < w3.heap.size := (by omega))); (try (have : w.heap.size + 1 < w3.heap.size + 1 := (by omega))); (try (have : w.heap.size + 1 < w3.heap.size + 1 + 1 := (by omega))); (try (have : w.heap.size + 1 + 1 < w3.heap.size := (by omega))); (try (have : w.heap.size + 1 + 1 < w3.heap.size + 1 := (by omega))); (try (have : w.heap.size + 1 + 1 < w3.heap.size + 1 + 1 := (by omega))); (try (have : w.heap.size + 1 + 1 + 1 < w3.heap.size := (by omega))); (try (have : w.heap.size + 1 + 1 + 1 < w3.heap.size + 1 := (by omega))); (try (have : w.heap.size + 1 + 1 + 1 < w3.heap.size + 1 + 1 := (by omega)))
  have HO3 := Lib.hid hO3
  clear how3 hO3
  go_wp2_with fail
  refine (HN.out _ _ _ HO3.out).mono ?_
  rintro e w4 ⟨rfl, hb4⟩
  have hc4 := (Free.cells_of hb4).1; have hf4 := (Free.cells_of hb4).2; have hz4 := hb4.size; (try simp only [World.size_alloc, World.size_setCell, World.size_drew] at hz4)
  (try (have : w.heap.size < w4.heap.size := (by omega))); (try (have : w.heap.size < w4.heap.size + 1 := (by omega))); (try (have : w.heap.size < w4.heap.size + 1 + 1 := (by omega))); (try (have : w.heap.size + 1 < w4.heap.size := (by omega))); (try (have : w.heap.size + 1 < w4.heap.size + 1 := (by omega))); (try (have : w.heap.size + 1 < w4.heap.size + 1 + 1 := (by omega))); (try (have : w.heap.size + 1 + 1 < w4.heap.size := (by omega))); (try (have : w.heap.size + 1 + 1 < w4.heap.size + 1 := (by omega))); (try (have : w.heap.size + 1 + 1 < w4.heap.size + 1 + 1 := (by omega))); (try (have : w.heap.size + 1 + 1 + 1 < w4.heap.size := (by omega))); (try (have : w.heap.size + 1 + 1 + 1 < w4.heap.size + 1 := (by omega))); (try (have : w.heap.size + 1 + 1 + 1 < w4.heap.size + 1 + 1 := (by omega)))
  go_wp2_with fail
  refine (HC.out _ (HO.out.below (by repeat' first | with_reducible exact Below.refl _ _ | with_reducible assumption | with_reducible refine Free.Grow.alloc ?_ _ | with_reducible refine Free.Grow.setCell ?_ (by first | omega | (simp; done) | (simp; omega)) _ | with_reducible refine Free.Grow.drew ?_ | with_reducible refine Free.Grow.trans ?_ (by assumption)))).mono ?_
  rintro e w5 ⟨g5, cap5, rfl, hb5, how5, hO5⟩
  have hc5 := (Free.cells_of hb5).1; have hf5 := (Free.cells_of hb5).2; have hz5 := hb5.size; (try simp only [World.size_alloc, World.size_setCell, World.size_drew] at hz5)
  (try (have : w.heap.size < w5.heap.size := (by omega))); (try (have : w.heap.size < w5.heap.size + 1 := (by omega))); (try (have : w.heap.size < w5.heap.size + 1 + 1 := (by omega))); (try (have : w.heap.size + 1 < w5.heap.size := (by omega))); (try (have : w.heap.size + 1 < w5.heap.size + 1 := (by omega))); (try (have : w.heap.size + 1 < w5.heap.size + 1 + 1 := (by omega))); (try (have : w.heap.size + 1 + 1 < w5.heap.size := (by omega))); (try (have : w.heap.size + 1 + 1 < w5.heap.size + 1 := (by omega))); (try (have : w.heap.size + 1 + 1 < w5.heap.size + 1 + 1 := (by omega))); (try (have : w.heap.size + 1 + 1 + 1 < w5.heap.size := (by omega))); (try (have : w.heap.size + 1 + 1 + 1 < w5.heap.size + 1 := (by omega))); (try (have : w.heap.size + 1 + 1 + 1 < w5.heap.size + 1 + 1 := (by omega))); (try (have : w4.heap.size < w5.heap.size := (by omega))); (try (have : w4.heap.size < w5.heap.size + 1 := (by omega))); (try (have : w4.heap.size < w5.heap.size + 1 + 1 := (by omega))); (try (have : w4.heap.size + 1 < w5.heap.size := (by omega))); (try (have : w4.heap.size + 1 < w5.heap.size + 1 := (by omega))); (try (have : w4.heap.size + 1 < w5.heap.size + 1 + 1 := (by omega))); (try (have : w4.heap.size + 1 + 1 < w5.heap.size := (by omega))); (try (have : w4.heap.size + 1 + 1 < w5.heap.size + 1 := (by omega))); (try (have : w4.heap.size + 1 + 1 < w5.heap.size + 1 + 1 := (by omega))); (try (have : w4.heap.size + 1 + 1 + 1 < w5.heap.size := (by omega))); (try (have : w4.heap.size + 1 + 1 + 1 < w5.heap.size + 1 := (by omega))); (try (have : w4.heap.size + 1 + 1 + 1 < w5.heap.size + 1 + 1 := (by omega)))
  have HO5 := Lib.hid hO5
  clear how5 hO5
  go_wp2_with fail
  refine (HB.out _ _ _ HO5.out).mono ?_
  rintro e w6 ⟨rfl, hb6⟩
  have hc6 := (Free.cells_of hb6).1; have hf6 := (Free.cells_of hb6).2; have hz6 := hb6.size; (try simp only [World.size_alloc, World.size_setCell, World.size_drew] at hz6)
  (try (have : w.heap.size < w6.heap.size := (by omega))); (try (have : w.heap.size < w6.heap.size + 1 := (by omega))); (try (have : w.heap.size < w6.heap.size + 1 + 1 := (by omega))); (try (have : w.heap.size + 1 < w6.heap.size := (by omega))); (try (have : w.heap.size + 1 < w6.heap.size + 1 := (by omega))); (try (have : w.heap.size + 1 < w6.heap.size + 1 + 1 := (by omega))); (try (have : w.heap.size + 1 + 1 < w6.heap.size := (by omega))); (try (have : w.heap.size + 1 + 1 < w6.heap.size + 1 := (by omega))); (try (have : w.heap.size + 1 + 1 < w6.heap.size + 1 + 1 := (by omega))); (try (have : w.heap.size + 1 + 1 + 1 < w6.heap.size := (by omega))); (try (have : w.heap.size + 1 + 1 + 1 < w6.heap.size + 1 := (by omega))); (try (have : w.heap.size + 1 + 1 + 1 < w6.heap.size + 1 + 1 := (by omega))); (try (have : w4.heap.size < w6.heap.size := (by omega))); (try (have : w4.heap.size < w6.heap.size + 1 := (by omega))); (try (have : w4.heap.size < w6.heap.size + 1 + 1 := (by omega))); (try (have : w4.heap.size + 1 < w6.heap.size := (by omega))); (try (have : w4.heap.size + 1 < w6.heap.size + 1 := (by omega))); (try (have : w4.heap.size + 1 < w6.heap.size + 1 + 1 := (by omega))); (try (have : w4.heap.size + 1 + 1 < w6.heap.size := (by omega))); (try (have : w4.heap.size + 1 + 1 < w6.heap.size + 1 := (by omega))); (try (have : w4.heap.size + 1 + 1 < w6.heap.size + 1 + 1 := (by omega))); (try (have : w4.heap.size + 1 + 1 + 1 < w6.heap.size := (by omega))); (try (have : w4.heap.size + 1 + 1 + 1 < w6.heap.size + 1 := (by omega))); (try (have : w4.heap.size + 1 + 1 + 1 < w6.heap.size + 1 + 1 := (by omega)))
  go_wp2_with fail
  refine (HT.out _ (HO.out.below (by repeat' first | with_reducible exact Below.refl _ _ | with_reducible assumption | with_reducible refine Free.Grow.alloc ?_ _ | with_reducible refine Free.Grow.setCell ?_ (by first | omega | (simp; done) | (simp; omega)) _ | with_reducible refine Free.Grow.drew ?_ | with_reducible refine Free.Grow.trans ?_ (by assumption)))).mono ?_
  rintro e w7 ⟨rfl, hb7⟩
  have hc7 := (Free.cells_of hb7).1; have hf7 := (Free.cells_of hb7).2; have hz7 := hb7.size; (try simp only [World.size_alloc, World.size_setCell, World.size_drew] at hz7)
  (try (have : w.heap.size < w7.heap.size := (by omega))); (try (have : w.heap.size < w7.heap.size + 1 := (by omega))); (try (have : w.heap.size < w7.heap.size + 1 + 1 := (by omega))); (try (have : w.heap.size + 1 < w7.heap.size := (by omega))); (try (have : w.heap.size + 1 < w7.heap.size + 1 := (by omega))); (try (have : w.heap.size + 1 < w7.heap.size + 1 + 1 := (by omega))); (try (have : w.heap.size + 1 + 1 < w7.heap.size := (by omega))); (try (have : w.heap.size + 1 + 1 < w7.heap.size + 1 := (by omega))); (try (have : w.heap.size + 1 + 1 < w7.heap.size + 1 + 1 := (by omega))); (try (have : w.heap.size + 1 + 1 + 1 < w7.heap.size := (by omega))); (try (have : w.heap.size + 1 + 1 + 1 < w7.heap.size + 1 := (by omega))); (try (have : w.heap.size + 1 + 1 + 1 < w7.heap.size + 1 + 1 := (by omega))); (try (have : w4.heap.size < w7.heap.size := (by omega))); (try (have : w4.heap.size < w7.heap.size + 1 := (by omega))); (try (have : w4.heap.size < w7.heap.size + 1 + 1 := (by omega))); (try (have : w4.heap.size + 1 < w7.heap.size := (by omega))); (try (have : w4.heap.size + 1 < w7.heap.size + 1 := (by omega))); (try (have : w4.heap.size + 1 < w7.heap.size + 1 + 1 := (by omega))); (try (have : w4.heap.size + 1 + 1 < w7.heap.size := (by omega))); (try (have : w4.heap.size + 1 + 1 < w7.heap.size + 1 := (by omega))); (try (have : w4.heap.size + 1 + 1 < w7.heap.size + 1 + 1 := (by omega))); (try (have : w4.heap.size + 1 + 1 + 1 < w7.heap.size := (by omega))); (try (have : w4.heap.size + 1 + 1 + 1 < w7.heap.size + 1 := (by omega))); (try (have : w4.heap.size + 1 + 1 + 1 < w7.heap.size + 1 + 1 := (by omega))); (try (have : w6.heap.size < w7.heap.size := (by omega))); (try (have : w6.heap.size < w7.heap.size + 1 := (by omega))); (try (have : w6.heap.size < w7.heap.size + 1 + 1 := (by omega))); (try (have : w6.heap.size + 1 < w7.heap.size := (by omega))); (try (have : w6.heap.size + 1 < w7.heap.size + 1 := (by omega))); (try (have : w6.heap.size + 1 < w7.heap.size + 1 + 1 := (by omega))); (try (have : w6.heap.size + 1 + 1 < w7.heap.size := (by omega))); (try (have : w6.heap.size + 1 + 1 < w7.heap.size + 1 := (by omega))); (try (have : w6.heap.size + 1 + 1 < w7.heap.size + 1 + 1 := (by omega))); (try (have : w6.heap.size + 1 + 1 + 1 < w7.heap.size := (by omega))); (try (have : w6.heap.size + 1 + 1 + 1 < w7.heap.size + 1 := (by omega))); (try (have : w6.heap.size + 1 + 1 + 1 < w7.heap.size + 1 + 1 := (by omega)))
  go_wp2
  refine Free.wp_region 54 #[0, 1, 3, 7, 7, 7, 55, 127, 255, 511, 1023, 2047, 4095, 8191, 16383, 16383, 16383, 114687, 262143, 524287, 1048575, 2097151, 4194303, 2097151, 10485759, 27262975, 2097151, 69206015, 203423743, 536870911, 1073741823, 2147483647, 4294967295, 8589934591, 4294967295, 21474836479, 55834574847, 4294967295, 141733920767, 416611827711, 1099511627775, 2199023255551, 4398046511103, 8796093022207, 17592186044415, 8796093022207, 43980465111039, 114349209288703, 8796093022207, 290271069732863, 853221023154175, 2251799813685247, 4503599627370495, 9007199254740991] (by kernel_rfl) (by kernel_rfl) ?_
  simp only [List.take_succ_cons, List.take_zero]
  iterate 3
    refine Free.E.q (by rfl) ?_
    apply Exists.intro
    refine ⟨fun u w' hc hb => ?_, ?_⟩
    go_simp
    (try go_ints); (try simp only [Ob.ite_imx, Ob.ite_imn]); first | exact rfl | (go_simp; exact rfl) | ((go_at_call 29; exact HRN.out _ (HM.out.below (B := w.heap.size) (by repeat' first | with_reducible exact Below.refl _ _ | with_reducible assumption | with_reducible refine Free.Grow.alloc ?_ _ | with_reducible refine Free.Grow.setCell ?_ (by first | omega | (simp; done) | (simp; omega)) _ | with_reducible refine Free.Grow.drew ?_ | with_reducible refine Free.Grow.trans ?_ (by assumption)) hbw) (by have := hb.size; omega))) | ((go_at_call 30; exact HRB.out _ (HM.out.below (B := w.heap.size) (by repeat' first | with_reducible exact Below.refl _ _ | with_reducible assumption | with_reducible refine Free.Grow.alloc ?_ _ | with_reducible refine Free.Grow.setCell ?_ (by first | omega | (simp; done) | (simp; omega)) _ | with_reducible refine Free.Grow.drew ?_ | with_reducible refine Free.Grow.trans ?_ (by assumption)) hbw) (by have := hb.size; omega))) | ((go_at_call 21; with_reducible exact Free.Calls.grow (HI0.out _))) | ((go_at_call 21; with_reducible exact Free.Calls.grow (HI1.out _))) | ((go_at_call 21; with_reducible exact Free.Calls.grow (HI2.out _))) | (simp only [↓IntWalk.iteOmega]; (try go_simp); exact rfl)
    simp only [Act.put, List.setIfInBounds_toArray, List.set_cons_zero, List.set_cons_succ, List.nil_append, List.cons_append]
  iterate 5
    first
      | (refine Free.E.no ?_ ?_
         (intro _; rfl)
         simp only [Act.put, List.setIfInBounds_toArray, List.set_cons_zero, List.set_cons_succ, List.nil_append, List.cons_append])
      | (refine Free.E.qy ?_ ?_
         (intro _; rfl)
         apply Exists.intro
         refine ⟨fun u w' hc hb => ?_, ?_⟩
         go_simp
         (try go_ints); (try simp only [Ob.ite_imx, Ob.ite_imn]); first | exact rfl | (go_simp; exact rfl) | ((go_at_call 29; exact HRN.out _ (HM.out.below (B := w.heap.size) (by repeat' first | with_reducible exact Below.refl _ _ | with_reducible assumption | with_reducible refine Free.Grow.alloc ?_ _ | with_reducible refine Free.Grow.setCell ?_ (by first | omega | (simp; done) | (simp; omega)) _ | with_reducible refine Free.Grow.drew ?_ | with_reducible refine Free.Grow.trans ?_ (by assumption)) hbw) (by have := hb.size; omega))) | ((go_at_call 30; exact HRB.out _ (HM.out.below (B := w.heap.size) (by repeat' first | with_reducible exact Below.refl _ _ | with_reducible assumption | with_reducible refine Free.Grow.alloc ?_ _ | with_reducible refine Free.Grow.setCell ?_ (by first | omega | (simp; done) | (simp; omega)) _ | with_reducible refine Free.Grow.drew ?_ | with_reducible refine Free.Grow.trans ?_ (by assumption)) hbw) (by have := hb.size; omega))) | ((go_at_call 21; with_reducible exact Free.Calls.grow (HI0.out _))) | ((go_at_call 21; with_reducible exact Free.Calls.grow (HI1.out _))) | ((go_at_call 21; with_reducible exact Free.Calls.grow (HI2.out _))) | (simp only [↓IntWalk.iteOmega]; (try go_simp); exact rfl)
         simp only [Act.put, List.setIfInBounds_toArray, List.set_cons_zero, List.set_cons_succ, List.nil_append, List.cons_append])
  iterate 2
    refine Free.E.q (by rfl) ?_
    apply Exists.intro
    refine ⟨fun u w' hc hb => ?_, ?_⟩
    go_simp
    (try go_ints); (try simp only [Ob.ite_imx, Ob.ite_imn]); first | exact rfl | (go_simp; exact rfl) | ((go_at_call 29; exact HRN.out _ (HM.out.below (B := w.heap.size) (by repeat' first | with_reducible exact Below.refl _ _ | with_reducible assumption | with_reducible refine Free.Grow.alloc ?_ _ | with_reducible refine Free.Grow.setCell ?_ (by first | omega | (simp; done) | (simp; omega)) _ | with_reducible refine Free.Grow.drew ?_ | with_reducible refine Free.Grow.trans ?_ (by assumption)) hbw) (by have := hb.size; omega))) | ((go_at_call 30; exact HRB.out _ (HM.out.below (B := w.heap.size) (by repeat' first | with_reducible exact Below.refl _ _ | with_reducible assumption | with_reducible refine Free.Grow.alloc ?_ _ | with_reducible refine Free.Grow.setCell ?_ (by first | omega | (simp; done) | (simp; omega)) _ | with_reducible refine Free.Grow.drew ?_ | with_reducible refine Free.Grow.trans ?_ (by assumption)) hbw) (by have := hb.size; omega))) | ((go_at_call 21; with_reducible exact Free.Calls.grow (HI0.out _))) | ((go_at_call 21; with_reducible exact Free.Calls.grow (HI1.out _))) | ((go_at_call 21; with_reducible exact Free.Calls.grow (HI2.out _))) | (simp only [↓IntWalk.iteOmega]; (try go_simp); exact rfl)
    simp only [Act.put, List.setIfInBounds_toArray, List.set_cons_zero, List.set_cons_succ, List.nil_append, List.cons_append]
  iterate 2
    first
      | (refine Free.E.no ?_ ?_
         (intro _; rfl)
         simp only [Act.put, List.setIfInBounds_toArray, List.set_cons_zero, List.set_cons_succ, List.nil_append, List.cons_append])
      | (refine Free.E.qy ?_ ?_
         (intro _; rfl)
         apply Exists.intro
         refine ⟨fun u w' hc hb => ?_, ?_⟩
         go_simp
         (try go_ints); (try simp only [Ob.ite_imx, Ob.ite_imn]); first | exact rfl | (go_simp; exact rfl) | ((go_at_call 29; exact HRN.out _ (HM.out.below (B := w.heap.size) (by repeat' first | with_reducible exact Below.refl _ _ | with_reducible assumption | with_reducible refine Free.Grow.alloc ?_ _ | with_reducible refine Free.Grow.setCell ?_ (by first | omega | (simp; done) | (simp; omega)) _ | with_reducible refine Free.Grow.drew ?_ | with_reducible refine Free.Grow.trans ?_ (by assumption)) hbw) (by have := hb.size; omega))) | ((go_at_call 30; exact HRB.out _ (HM.out.below (B := w.heap.size) (by repeat' first | with_reducible exact Below.refl _ _ | with_reducible assumption | with_reducible refine Free.Grow.alloc ?_ _ | with_reducible refine Free.Grow.setCell ?_ (by first | omega | (simp; done) | (simp; omega)) _ | with_reducible refine Free.Grow.drew ?_ | with_reducible refine Free.Grow.trans ?_ (by assumption)) hbw) (by have := hb.size; omega))) | ((go_at_call 21; with_reducible exact Free.Calls.grow (HI0.out _))) | ((go_at_call 21; with_reducible exact Free.Calls.grow (HI1.out _))) | ((go_at_call 21; with_reducible exact Free.Calls.grow (HI2.out _))) | (simp only [↓IntWalk.iteOmega]; (try go_simp); exact rfl)
         simp only [Act.put, List.setIfInBounds_toArray, List.set_cons_zero, List.set_cons_succ, List.nil_append, List.cons_append])
  iterate 2
    refine Free.E.q (by rfl) ?_
    apply Exists.intro
    refine ⟨fun u w' hc hb => ?_, ?_⟩
    go_simp
    (try go_ints); (try simp only [Ob.ite_imx, Ob.ite_imn]); first | exact rfl | (go_simp; exact rfl) | ((go_at_call 29; exact HRN.out _ (HM.out.below (B := w.heap.size) (by repeat' first | with_reducible exact Below.refl _ _ | with_reducible assumption | with_reducible refine Free.Grow.alloc ?_ _ | with_reducible refine Free.Grow.setCell ?_ (by first | omega | (simp; done) | (simp; omega)) _ | with_reducible refine Free.Grow.drew ?_ | with_reducible refine Free.Grow.trans ?_ (by assumption)) hbw) (by have := hb.size; omega))) | ((go_at_call 30; exact HRB.out _ (HM.out.below (B := w.heap.size) (by repeat' first | with_reducible exact Below.refl _ _ | with_reducible assumption | with_reducible refine Free.Grow.alloc ?_ _ | with_reducible refine Free.Grow.setCell ?_ (by first | omega | (simp; done) | (simp; omega)) _ | with_reducible refine Free.Grow.drew ?_ | with_reducible refine Free.Grow.trans ?_ (by assumption)) hbw) (by have := hb.size; omega))) | ((go_at_call 21; with_reducible exact Free.Calls.grow (HI0.out _))) | ((go_at_call 21; with_reducible exact Free.Calls.grow (HI1.out _))) | ((go_at_call 21; with_reducible exact Free.Calls.grow (HI2.out _))) | (simp only [↓IntWalk.iteOmega]; (try go_simp); exact rfl)
    simp only [Act.put, List.setIfInBounds_toArray, List.set_cons_zero, List.set_cons_succ, List.nil_append, List.cons_append]
  iterate 5
    first
      | (refine Free.E.no ?_ ?_
         (intro _; rfl)
         simp only [Act.put, List.setIfInBounds_toArray, List.set_cons_zero, List.set_cons_succ, List.nil_append, List.cons_append])
      | (refine Free.E.qy ?_ ?_
         (intro _; rfl)
         apply Exists.intro
         refine ⟨fun u w' hc hb => ?_, ?_⟩
         go_simp
         (try go_ints); (try simp only [Ob.ite_imx, Ob.ite_imn]); first | exact rfl | (go_simp; exact rfl) | ((go_at_call 29; exact HRN.out _ (HM.out.below (B := w.heap.size) (by repeat' first | with_reducible exact Below.refl _ _ | with_reducible assumption | with_reducible refine Free.Grow.alloc ?_ _ | with_reducible refine Free.Grow.setCell ?_ (by first | omega | (simp; done) | (simp; omega)) _ | with_reducible refine Free.Grow.drew ?_ | with_reducible refine Free.Grow.trans ?_ (by assumption)) hbw) (by have := hb.size; omega))) | ((go_at_call 30; exact HRB.out _ (HM.out.below (B := w.heap.size) (by repeat' first | with_reducible exact Below.refl _ _ | with_reducible assumption | with_reducible refine Free.Grow.alloc ?_ _ | with_reducible refine Free.Grow.setCell ?_ (by first | omega | (simp; done) | (simp; omega)) _ | with_reducible refine Free.Grow.drew ?_ | with_reducible refine Free.Grow.trans ?_ (by assumption)) hbw) (by have := hb.size; omega))) | ((go_at_call 21; with_reducible exact Free.Calls.grow (HI0.out _))) | ((go_at_call 21; with_reducible exact Free.Calls.grow (HI1.out _))) | ((go_at_call 21; with_reducible exact Free.Calls.grow (HI2.out _))) | (simp only [↓IntWalk.iteOmega]; (try go_simp); exact rfl)
         simp only [Act.put, List.setIfInBounds_toArray, List.set_cons_zero, List.set_cons_succ, List.nil_append, List.cons_append])
  iterate 2
    refine Free.E.q (by rfl) ?_
    apply Exists.intro
    refine ⟨fun u w' hc hb => ?_, ?_⟩
    go_simp
    (try go_ints); (try simp only [Ob.ite_imx, Ob.ite_imn]); first | exact rfl | (go_simp; exact rfl) | ((go_at_call 29; exact HRN.out _ (HM.out.below (B := w.heap.size) (by repeat' first | with_reducible exact Below.refl _ _ | with_reducible assumption | with_reducible refine Free.Grow.alloc ?_ _ | with_reducible refine Free.Grow.setCell ?_ (by first | omega | (simp; done) | (simp; omega)) _ | with_reducible refine Free.Grow.drew ?_ | with_reducible refine Free.Grow.trans ?_ (by assumption)) hbw) (by have := hb.size; omega))) | ((go_at_call 30; exact HRB.out _ (HM.out.below (B := w.heap.size) (by repeat' first | with_reducible exact Below.refl _ _ | with_reducible assumption | with_reducible refine Free.Grow.alloc ?_ _ | with_reducible refine Free.Grow.setCell ?_ (by first | omega | (simp; done) | (simp; omega)) _ | with_reducible refine Free.Grow.drew ?_ | with_reducible refine Free.Grow.trans ?_ (by assumption)) hbw) (by have := hb.size; omega))) | ((go_at_call 21; with_reducible exact Free.Calls.grow (HI0.out _))) | ((go_at_call 21; with_reducible exact Free.Calls.grow (HI1.out _))) | ((go_at_call 21; with_reducible exact Free.Calls.grow (HI2.out _))) | (simp only [↓IntWalk.iteOmega]; (try go_simp); exact rfl)
    simp only [Act.put, List.setIfInBounds_toArray, List.set_cons_zero, List.set_cons_succ, List.nil_append, List.cons_append]
  iterate 9
    first
      | (refine Free.E.no ?_ ?_
         (intro _; rfl)
         simp only [Act.put, List.setIfInBounds_toArray, List.set_cons_zero, List.set_cons_succ, List.nil_append, List.cons_append])
      | (refine Free.E.qy ?_ ?_
         (intro _; rfl)
         apply Exists.intro
         refine ⟨fun u w' hc hb => ?_, ?_⟩
         go_simp
         (try go_ints); (try simp only [Ob.ite_imx, Ob.ite_imn]); first | exact rfl | (go_simp; exact rfl) | ((go_at_call 29; exact HRN.out _ (HM.out.below (B := w.heap.size) (by repeat' first | with_reducible exact Below.refl _ _ | with_reducible assumption | with_reducible refine Free.Grow.alloc ?_ _ | with_reducible refine Free.Grow.setCell ?_ (by first | omega | (simp; done) | (simp; omega)) _ | with_reducible refine Free.Grow.drew ?_ | with_reducible refine Free.Grow.trans ?_ (by assumption)) hbw) (by have := hb.size; omega))) | ((go_at_call 30; exact HRB.out _ (HM.out.below (B := w.heap.size) (by repeat' first | with_reducible exact Below.refl _ _ | with_reducible assumption | with_reducible refine Free.Grow.alloc ?_ _ | with_reducible refine Free.Grow.setCell ?_ (by first | omega | (simp; done) | (simp; omega)) _ | with_reducible refine Free.Grow.drew ?_ | with_reducible refine Free.Grow.trans ?_ (by assumption)) hbw) (by have := hb.size; omega))) | ((go_at_call 21; with_reducible exact Free.Calls.grow (HI0.out _))) | ((go_at_call 21; with_reducible exact Free.Calls.grow (HI1.out _))) | ((go_at_call 21; with_reducible exact Free.Calls.grow (HI2.out _))) | (simp only [↓IntWalk.iteOmega]; (try go_simp); exact rfl)
         simp only [Act.put, List.setIfInBounds_toArray, List.set_cons_zero, List.set_cons_succ, List.nil_append, List.cons_append])
  iterate 2
    refine Free.E.q (by rfl) ?_
    apply Exists.intro
    refine ⟨fun u w' hc hb => ?_, ?_⟩
    go_simp
    (try go_ints); (try simp only [Ob.ite_imx, Ob.ite_imn]); first | exact rfl | (go_simp; exact rfl) | ((go_at_call 29; exact HRN.out _ (HM.out.below (B := w.heap.size) (by repeat' first | with_reducible exact Below.refl _ _ | with_reducible assumption | with_reducible refine Free.Grow.alloc ?_ _ | with_reducible refine Free.Grow.setCell ?_ (by first | omega | (simp; done) | (simp; omega)) _ | with_reducible refine Free.Grow.drew ?_ | with_reducible refine Free.Grow.trans ?_ (by assumption)) hbw) (by have := hb.size; omega))) | ((go_at_call 30; exact HRB.out _ (HM.out.below (B := w.heap.size) (by repeat' first | with_reducible exact Below.refl _ _ | with_reducible assumption | with_reducible refine Free.Grow.alloc ?_ _ | with_reducible refine Free.Grow.setCell ?_ (by first | omega | (simp; done) | (simp; omega)) _ | with_reducible refine Free.Grow.drew ?_ | with_reducible refine Free.Grow.trans ?_ (by assumption)) hbw) (by have := hb.size; omega))) | ((go_at_call 21; with_reducible exact Free.Calls.grow (HI0.out _))) | ((go_at_call 21; with_reducible exact Free.Calls.grow (HI1.out _))) | ((go_at_call 21; with_reducible exact Free.Calls.grow (HI2.out _))) | (simp only [↓IntWalk.iteOmega]; (try go_simp); exact rfl)
    simp only [Act.put, List.setIfInBounds_toArray, List.set_cons_zero, List.set_cons_succ, List.nil_append, List.cons_append]
  iterate 9
    first
      | (refine Free.E.no ?_ ?_
         (intro _; rfl)
         simp only [Act.put, List.setIfInBounds_toArray, List.set_cons_zero, List.set_cons_succ, List.nil_append, List.cons_append])
      | (refine Free.E.qy ?_ ?_
         (intro _; rfl)
         apply Exists.intro
         refine ⟨fun u w' hc hb => ?_, ?_⟩
         go_simp
         (try go_ints); (try simp only [Ob.ite_imx, Ob.ite_imn]); first | exact rfl | (go_simp; exact rfl) | ((go_at_call 29; exact HRN.out _ (HM.out.below (B := w.heap.size) (by repeat' first | with_reducible exact Below.refl _ _ | with_reducible assumption | with_reducible refine Free.Grow.alloc ?_ _ | with_reducible refine Free.Grow.setCell ?_ (by first | omega | (simp; done) | (simp; omega)) _ | with_reducible refine Free.Grow.drew ?_ | with_reducible refine Free.Grow.trans ?_ (by assumption)) hbw) (by have := hb.size; omega))) | ((go_at_call 30; exact HRB.out _ (HM.out.below (B := w.heap.size) (by repeat' first | with_reducible exact Below.refl _ _ | with_reducible assumption | with_reducible refine Free.Grow.alloc ?_ _ | with_reducible refine Free.Grow.setCell ?_ (by first | omega | (simp; done) | (simp; omega)) _ | with_reducible refine Free.Grow.drew ?_ | with_reducible refine Free.Grow.trans ?_ (by assumption)) hbw) (by have := hb.size; omega))) | ((go_at_call 21; with_reducible exact Free.Calls.grow (HI0.out _))) | ((go_at_call 21; with_reducible exact Free.Calls.grow (HI1.out _))) | ((go_at_call 21; with_reducible exact Free.Calls.grow (HI2.out _))) | (simp only [↓IntWalk.iteOmega]; (try go_simp); exact rfl)
         simp only [Act.put, List.setIfInBounds_toArray, List.set_cons_zero, List.set_cons_succ, List.nil_append, List.cons_append])
  iterate 2
    refine Free.E.q (by rfl) ?_
    apply Exists.intro
    refine ⟨fun u w' hc hb => ?_, ?_⟩
    go_simp
    (try go_ints); (try simp only [Ob.ite_imx, Ob.ite_imn]); first | exact rfl | (go_simp; exact rfl) | ((go_at_call 29; exact HRN.out _ (HM.out.below (B := w.heap.size) (by repeat' first | with_reducible exact Below.refl _ _ | with_reducible assumption | with_reducible refine Free.Grow.alloc ?_ _ | with_reducible refine Free.Grow.setCell ?_ (by first | omega | (simp; done) | (simp; omega)) _ | with_reducible refine Free.Grow.drew ?_ | with_reducible refine Free.Grow.trans ?_ (by assumption)) hbw) (by have := hb.size; omega))) | ((go_at_call 30; exact HRB.out _ (HM.out.below (B := w.heap.size) (by repeat' first | with_reducible exact Below.refl _ _ | with_reducible assumption | with_reducible refine Free.Grow.alloc ?_ _ | with_reducible refine Free.Grow.setCell ?_ (by first | omega | (simp; done) | (simp; omega)) _ | with_reducible refine Free.Grow.drew ?_ | with_reducible refine Free.Grow.trans ?_ (by assumption)) hbw) (by have := hb.size; omega))) | ((go_at_call 21; with_reducible exact Free.Calls.grow (HI0.out _))) | ((go_at_call 21; with_reducible exact Free.Calls.grow (HI1.out _))) | ((go_at_call 21; with_reducible exact Free.Calls.grow (HI2.out _))) | (simp only [↓IntWalk.iteOmega]; (try go_simp); exact rfl)
    simp only [Act.put, List.setIfInBounds_toArray, List.set_cons_zero, List.set_cons_succ, List.nil_append, List.cons_append]
  iterate 9
    first
      | (refine Free.E.no ?_ ?_
         (intro _; rfl)
         simp only [Act.put, List.setIfInBounds_toArray, List.set_cons_zero, List.set_cons_succ, List.nil_append, List.cons_append])
      | (refine Free.E.qy ?_ ?_
         (intro _; rfl)
         apply Exists.intro
         refine ⟨fun u w' hc hb => ?_, ?_⟩
         go_simp
         (try go_ints); (try simp only [Ob.ite_imx, Ob.ite_imn]); first | exact rfl | (go_simp; exact rfl) | ((go_at_call 29; exact HRN.out _ (HM.out.below (B := w.heap.size) (by repeat' first | with_reducible exact Below.refl _ _ | with_reducible assumption | with_reducible refine Free.Grow.alloc ?_ _ | with_reducible refine Free.Grow.setCell ?_ (by first | omega | (simp; done) | (simp; omega)) _ | with_reducible refine Free.Grow.drew ?_ | with_reducible refine Free.Grow.trans ?_ (by assumption)) hbw) (by have := hb.size; omega))) | ((go_at_call 30; exact HRB.out _ (HM.out.below (B := w.heap.size) (by repeat' first | with_reducible exact Below.refl _ _ | with_reducible assumption | with_reducible refine Free.Grow.alloc ?_ _ | with_reducible refine Free.Grow.setCell ?_ (by first | omega | (simp; done) | (simp; omega)) _ | with_reducible refine Free.Grow.drew ?_ | with_reducible refine Free.Grow.trans ?_ (by assumption)) hbw) (by have := hb.size; omega))) | ((go_at_call 21; with_reducible exact Free.Calls.grow (HI0.out _))) | ((go_at_call 21; with_reducible exact Free.Calls.grow (HI1.out _))) | ((go_at_call 21; with_reducible exact Free.Calls.grow (HI2.out _))) | (simp only [↓IntWalk.iteOmega]; (try go_simp); exact rfl)
         simp only [Act.put, List.setIfInBounds_toArray, List.set_cons_zero, List.set_cons_succ, List.nil_append, List.cons_append])
  iterate 2
    refine Free.E.q (by rfl) ?_
    apply Exists.intro
    refine ⟨fun u w' hc hb => ?_, ?_⟩
    go_simp
    (try go_ints); (try simp only [Ob.ite_imx, Ob.ite_imn]); first | exact rfl | (go_simp; exact rfl) | ((go_at_call 29; exact HRN.out _ (HM.out.below (B := w.heap.size) (by repeat' first | with_reducible exact Below.refl _ _ | with_reducible assumption | with_reducible refine Free.Grow.alloc ?_ _ | with_reducible refine Free.Grow.setCell ?_ (by first | omega | (simp; done) | (simp; omega)) _ | with_reducible refine Free.Grow.drew ?_ | with_reducible refine Free.Grow.trans ?_ (by assumption)) hbw) (by have := hb.size; omega))) | ((go_at_call 30; exact HRB.out _ (HM.out.below (B := w.heap.size) (by repeat' first | with_reducible exact Below.refl _ _ | with_reducible assumption | with_reducible refine Free.Grow.alloc ?_ _ | with_reducible refine Free.Grow.setCell ?_ (by first | omega | (simp; done) | (simp; omega)) _ | with_reducible refine Free.Grow.drew ?_ | with_reducible refine Free.Grow.trans ?_ (by assumption)) hbw) (by have := hb.size; omega))) | ((go_at_call 21; with_reducible exact Free.Calls.grow (HI0.out _))) | ((go_at_call 21; with_reducible exact Free.Calls.grow (HI1.out _))) | ((go_at_call 21; with_reducible exact Free.Calls.grow (HI2.out _))) | (simp only [↓IntWalk.iteOmega]; (try go_simp); exact rfl)
    simp only [Act.put, List.setIfInBounds_toArray, List.set_cons_zero, List.set_cons_succ, List.nil_append, List.cons_append]
  refine Free.E.nil (fun u w8 S hF => ?_)
  have hb8 := hF.below
  clear hF
  have hc8 := (Free.cells_of hb8).1
  have hf8 := (Free.cells_of hb8).2
  have hz8 := hb8.size
  try simp only [World.size_alloc, World.size_setCell, World.size_drew] at hz8
  (try (have : w.heap.size < w8.heap.size := (by omega)))
  (try (have : w.heap.size < w8.heap.size + 1 := (by omega)))
  (try (have : w.heap.size < w8.heap.size + 1 + 1 := (by omega)))
  (try (have : w.heap.size + 1 < w8.heap.size := (by omega)))
  (try (have : w.heap.size + 1 < w8.heap.size + 1 := (by omega)))
  (try (have : w.heap.size + 1 < w8.heap.size + 1 + 1 := (by omega)))
  (try (have : w.heap.size + 1 + 1 < w8.heap.size := (by omega)))
  (try (have : w.heap.size + 1 + 1 < w8.heap.size + 1 := (by omega)))
  (try (have : w.heap.size + 1 + 1 < w8.heap.size + 1 + 1 := (by omega)))
  (try (have : w.heap.size + 1 + 1 + 1 < w8.heap.size := (by omega)))
  (try (have : w.heap.size + 1 + 1 + 1 < w8.heap.size + 1 := (by omega)))
  (try (have : w.heap.size + 1 + 1 + 1 < w8.heap.size + 1 + 1 := (by omega)))
  (try (have : w4.heap.size < w8.heap.size := (by omega)))
  (try (have : w4.heap.size < w8.heap.size + 1 := (by omega)))
  (try (have : w4.heap.size < w8.heap.size + 1 + 1 := (by omega)))
  (try (have : w4.heap.size + 1 < w8.heap.size := (by omega)))
  (try (have : w4.heap.size + 1 < w8.heap.size + 1 := (by omega)))
  (try (have : w4.heap.size + 1 < w8.heap.size + 1 + 1 := (by omega)))
  (try (have : w4.heap.size + 1 + 1 < w8.heap.size := (by omega)))
  (try (have : w4.heap.size + 1 + 1 < w8.heap.size + 1 := (by omega)))
  (try (have : w4.heap.size + 1 + 1 < w8.heap.size + 1 + 1 := (by omega)))
  (try (have : w4.heap.size + 1 + 1 + 1 < w8.heap.size := (by omega)))
  (try (have : w4.heap.size + 1 + 1 + 1 < w8.heap.size + 1 := (by omega)))
  (try (have : w4.heap.size + 1 + 1 + 1 < w8.heap.size + 1 + 1 := (by omega)))
  (try (have : w6.heap.size < w8.heap.size := (by omega)))
  (try (have : w6.heap.size < w8.heap.size + 1 := (by omega)))
  (try (have : w6.heap.size < w8.heap.size + 1 + 1 := (by omega)))
  (try (have : w6.heap.size + 1 < w8.heap.size := (by omega)))
  (try (have : w6.heap.size + 1 < w8.heap.size + 1 := (by omega)))
  (try (have : w6.heap.size + 1 < w8.heap.size + 1 + 1 := (by omega)))
  (try (have : w6.heap.size + 1 + 1 < w8.heap.size := (by omega)))
  (try (have : w6.heap.size + 1 + 1 < w8.heap.size + 1 := (by omega)))
  (try (have : w6.heap.size + 1 + 1 < w8.heap.size + 1 + 1 := (by omega)))
  (try (have : w6.heap.size + 1 + 1 + 1 < w8.heap.size := (by omega)))
  (try (have : w6.heap.size + 1 + 1 + 1 < w8.heap.size + 1 := (by omega)))
  (try (have : w6.heap.size + 1 + 1 + 1 < w8.heap.size + 1 + 1 := (by omega)))
  (try (have : w7.heap.size < w8.heap.size := (by omega)))
  (try (have : w7.heap.size < w8.heap.size + 1 := (by omega)))
  (try (have : w7.heap.size < w8.heap.size + 1 + 1 := (by omega)))
  (try (have : w7.heap.size + 1 < w8.heap.size := (by omega)))
  (try (have : w7.heap.size + 1 < w8.heap.size + 1 := (by omega)))
  (try (have : w7.heap.size + 1 < w8.heap.size + 1 + 1 := (by omega)))
  (try (have : w7.heap.size + 1 + 1 < w8.heap.size := (by omega)))
  (try (have : w7.heap.size + 1 + 1 < w8.heap.size + 1 := (by omega)))
  (try (have : w7.heap.size + 1 + 1 < w8.heap.size + 1 + 1 := (by omega)))
  (try (have : w7.heap.size + 1 + 1 + 1 < w8.heap.size := (by omega)))
  (try (have : w7.heap.size + 1 + 1 + 1 < w8.heap.size + 1 := (by omega)))
  (try (have : w7.heap.size + 1 + 1 + 1 < w8.heap.size + 1 + 1 := (by omega)))
  simp only [List.drop_succ_cons, List.drop_zero, List.drop_nil]
  go_wp2
  first | (go_ret; exact HR.out _ (by repeat' first | with_reducible exact Below.refl _ _ | with_reducible assumption | with_reducible refine Free.Grow.alloc ?_ _ | with_reducible refine Free.Grow.setCell ?_ (by first | omega | (simp; done) | (simp; omega)) _ | with_reducible refine Free.Grow.drew ?_ | with_reducible refine Free.Grow.trans ?_ (by assumption))) | exact HR.out _ (by repeat' first | with_reducible exact Below.refl _ _ | with_reducible assumption | with_reducible refine Free.Grow.alloc ?_ _ | with_reducible refine Free.Grow.setCell ?_ (by first | omega | (simp; done) | (simp; omega)) _ | with_reducible refine Free.Grow.drew ?_ | with_reducible refine Free.Grow.trans ?_ (by assumption))
end Go.Proofs.Ytaoennekamlfeaa.OrbitPlaces
