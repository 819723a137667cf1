/- Chapter 2: on which side of an arc a place lies. -/
import Derived.Test.Ythpjhpfebjjanaa02F
set_option linter.unusedSimpArgs false
set_option linter.unusedVariables false
namespace Go.Proofs.Ythpjhpfebjjanaa
open Go.RowKit Go.Ob

def turnV (a b : St) (x y : Int) : Int := (b.x - a.x) * (y - a.y) - (b.y - a.y) * (x - a.x)
def sideV (a b : St) (x y : Int) : Int := if 0 < turnV a b x y then 1 else if turnV a b x y < 0 then 2 else 0
def sideE (nm : List UInt8) (bd : Int) (l : List St) (k x y z : Int) : Int := if (orbE nm bd l).2 ≠ 0 then (orbE nm bd l).2 else firstE [arcE l k, placeE x y z]
def sideOr (nm : List UInt8) (bd : Int) (l : List St) (k x y z : Int) : Int := if sideE nm bd l k x y z = 0 then sideV (arcA l k) (arcZ l k) x y else 0
theorem arc_zero {l : List St} {k : Int} (h : arcE l k = 0) : arcB l k = true ∧ arcA l k = at_ l k.toNat ∧ arcZ l k = at_ l (k.toNat + 1) ∧ 0 ≤ k ∧ k.toNat + 1 < l.length := by
  unfold arcE at h
  split at h
  · rename_i hb
    have := rngB_true.1 hb
    exact ⟨hb, by unfold arcA; rw [if_pos hb], by unfold arcZ; rw [if_pos hb], this.1, by omega⟩
  · cases h
theorem prod_bd {a b : Int} (h0 : -200000000 ≤ a) (h1 : a ≤ 200000000) (h2 : -200000000 ≤ b) (h3 : b ≤ 200000000) : -40000000000000000 ≤ a * b ∧ a * b ≤ 40000000000000000 := by
  rcases Int.le_total 0 a with ha | ha <;> rcases Int.le_total 0 b with hb | hb
  · have := Int.mul_le_mul h1 h3 hb (by omega); have := Int.mul_nonneg ha hb; omega
  · have := Int.mul_le_mul h1 (show -b ≤ 200000000 by omega) (by omega) (by omega); have := Int.mul_nonneg ha (show 0 ≤ -b by omega); rw [Int.mul_neg] at *; omega
  · have := Int.mul_le_mul (show -a ≤ 200000000 by omega) h3 hb (by omega); have := Int.mul_nonneg (show 0 ≤ -a by omega) hb; rw [Int.neg_mul] at *; omega
  · have := Int.mul_le_mul (show -a ≤ 200000000 by omega) (show -b ≤ 200000000 by omega) (by omega) (by omega); have := Int.mul_nonneg (show 0 ≤ -a by omega) (show 0 ≤ -b by omega); rw [Int.neg_mul_neg] at *; omega

set_option maxRecDepth 100000 in
set_option maxHeartbeats 2000000 in
theorem SideOf_any (nm : ByteArray) (bd k x y z : Int) (a : Option Addr) (cap : Nat) (l : List St) (w : World) (hO : OrbIn w nm a cap l) :
    Calls Try.prog 44 #[obV nm bd a l.length cap, .int .i64 k, v3 x y z] w fun e w' => e = .returned (.tuple #[.int .i64 (sideOr nm.data.toList bd l k x y z), .int .i64 (sideE nm.data.toList bd l k x y z)]) ∧ Below w.heap.size w w' := by
  have HA := Lib.hid (fun w' (h : OrbIn w' nm a cap l) => pathOf_any nm bd a cap l w' h.nm h.sts h.cap h.len)
  by_cases h1 : (orbE nm.data.toList bd l).2 = 0
  · have hR := (orbE_right h1).1
    obtain ⟨b, off, rfl, hbw, hmem⟩ := hO.mem hR
    have hn2 := hR.n2
    have hn40 := hR.n40
    have HAr := Lib.hid (fun w' (hS' : HasSts w' b off l) (hb' : b < w'.heap.size) => arc_any nm bd k b off cap l w' hS' hb' (by omega) (by omega) hO.cap)
    have HO := Lib.hid hO
    have HM := Lib.hid hmem
    have hb0 : ((orbE nm.data.toList bd l).2 != 0) = false := by simp [h1]
    have HE : sideE nm.data.toList bd l k x y z = firstE [arcE l k, placeE x y z] := by unfold sideE; rw [if_neg (by simp [h1])]
    by_cases h : firstE [arcE l k, placeE x y z] = 0
    · have h2 := (firstE_two _ _).1 h
      obtain ⟨-, e1, e2, m0, m1⟩ := arc_zero h2.1
      obtain ⟨⟨x0, x1⟩, ⟨y0, y1⟩, -, -⟩ := placeE_zero h2.2
      have hz := (placeE_zero h2.2).2.2
      have oka := hR.ok k.toNat (by omega)
      have okb := hR.ok (k.toNat + 1) m1
      have HS : sideOr nm.data.toList bd l k x y z = sideV (arcA l k) (arcZ l k) x y := by unfold sideOr; rw [HE, if_pos h]
      rw [HS, HE, h]
      have hE0 : (firstE [arcE l k, placeE x y z] != 0) = false := by rw [h]; rfl
      rw [← e1] at oka
      rw [← e2] at okb
      clear HS HE h h1 h2 e1 e2 hO hmem hR
      generalize (orbE nm.data.toList bd l).2 = c at *
      generalize arcA l k = sa at *
      generalize arcZ l k = sb at *
      generalize arcE l k = c2 at *
      obtain ⟨p1, p2, p3, p4, p5⟩ := sa
      obtain ⟨q1, q2, q3, q4, q5⟩ := sb
      obtain ⟨_, _, oa3, oa4, oa5, oa6, oa7, oa8, _, _⟩ := oka
      obtain ⟨_, _, ob3, ob4, ob5, ob6, ob7, ob8, _, _⟩ := okb
      simp only at oa3 oa4 oa5 oa6 oa7 oa8 ob3 ob4 ob5 ob6 ob7 ob8
      obtain ⟨u0, u1⟩ := prod_bd (a := q2 - p2) (b := y - p3) (by omega) (by omega) (by omega) (by omega)
      obtain ⟨u2, u3⟩ := prod_bd (a := q3 - p3) (b := x - p2) (by omega) (by omega) (by omega) (by omega)
      refine Calls.made fun R HR => ?_
      have HQ : Hid (∀ v, sideV ⟨p1, p2, p3, p4, p5⟩ ⟨q1, q2, q3, q4, q5⟩ x y = v → ∀ w', Below w.heap.size w w' → R (.returned (.tuple #[.int .i64 v, .int .i64 0])) w') := fun v h w' hb => by have := HR.out w' hb; rw [h] at this; exact this
      clear HR
      have key : ∃ v, Hid (∀ w', Below w.heap.size w w' → R (.returned (.tuple #[.int .i64 v, .int .i64 0])) w') ∧ ((Hid (0 < (q2 - p2) * (y - p3) - (q3 - p3) * (x - p2)) ∧ v = 1) ∨ (Hid (¬ 0 < (q2 - p2) * (y - p3) - (q3 - p3) * (x - p2)) ∧ Hid ((q2 - p2) * (y - p3) - (q3 - p3) * (x - p2) < 0) ∧ v = 2) ∨ (Hid (¬ 0 < (q2 - p2) * (y - p3) - (q3 - p3) * (x - p2)) ∧ Hid (¬ (q2 - p2) * (y - p3) - (q3 - p3) * (x - p2) < 0) ∧ v = 0)) := by
        refine ⟨_, HQ.out _ rfl, ?_⟩
        unfold sideV turnV
        simp only
        by_cases t1 : 0 < (q2 - p2) * (y - p3) - (q3 - p3) * (x - p2)
        · exact .inl ⟨t1, by rw [if_pos t1]⟩
        · by_cases t2 : (q2 - p2) * (y - p3) - (q3 - p3) * (x - p2) < 0
          · exact .inr (.inl ⟨t1, t2, by rw [if_neg t1, if_pos t2]⟩)
          · exact .inr (.inr ⟨t1, t2, by rw [if_neg t1, if_neg t2]⟩)
      clear HQ
      obtain ⟨v, HR, key⟩ := key
      go_enter Try.func44, Try.ntmps44
      go_wp2_with (first | (go_at_call 70; refine (HA.out _ (HO.out.below (by repeat' first | with_reducible exact Below.refl _ _ | with_reducible assumption | with_reducible refine Free.Grow.alloc ?_ _ | with_reducible refine Free.Grow.setCell ?_ (by first | omega | (simp; done) | (simp; omega)) _ | with_reducible refine Free.Grow.drew ?_ | with_reducible refine Free.Grow.trans ?_ (by assumption)))).mono ?_; rintro e w1 ⟨rfl, hb1⟩; have hc1 := (Free.cells_of hb1).1; have hf1 := (Free.cells_of hb1).2; have hz1 := hb1.size; (try simp only [World.size_alloc, World.size_setCell, World.size_drew] at hz1); (try (have : w.heap.size < w1.heap.size := (by omega))); (try (have : w.heap.size < w1.heap.size + 1 := (by omega))); (try (have : w.heap.size < w1.heap.size + 1 + 1 := (by omega))); (try (have : w.heap.size + 1 < w1.heap.size := (by omega))); (try (have : w.heap.size + 1 < w1.heap.size + 1 := (by omega))); (try (have : w.heap.size + 1 < w1.heap.size + 1 + 1 := (by omega))); (try (have : w.heap.size + 1 + 1 < w1.heap.size := (by omega))); (try (have : w.heap.size + 1 + 1 < w1.heap.size + 1 := (by omega))); (try (have : w.heap.size + 1 + 1 < w1.heap.size + 1 + 1 := (by omega))); (try (have : w.heap.size + 1 + 1 + 1 < w1.heap.size := (by omega))); (try (have : w.heap.size + 1 + 1 + 1 < w1.heap.size + 1 := (by omega))); (try (have : w.heap.size + 1 + 1 + 1 < w1.heap.size + 1 + 1 := (by omega)))) | (go_at_call 101; refine (HAr.out _ (HM.out.below (B := w.heap.size) (by repeat' first | with_reducible exact Below.refl _ _ | with_reducible assumption | with_reducible refine Free.Grow.alloc ?_ _ | with_reducible refine Free.Grow.setCell ?_ (by first | omega | (simp; done) | (simp; omega)) _ | with_reducible refine Free.Grow.drew ?_ | with_reducible refine Free.Grow.trans ?_ (by assumption)) hbw) (by first | omega | (simp; done) | (simp; omega))).mono ?_; rintro e w2 ⟨rfl, hb2⟩; have hc2 := (Free.cells_of hb2).1; have hf2 := (Free.cells_of hb2).2; have hz2 := hb2.size; (try simp only [World.size_alloc, World.size_setCell, World.size_drew] at hz2); (try (have : w.heap.size < w2.heap.size := (by omega))); (try (have : w.heap.size < w2.heap.size + 1 := (by omega))); (try (have : w.heap.size < w2.heap.size + 1 + 1 := (by omega))); (try (have : w.heap.size + 1 < w2.heap.size := (by omega))); (try (have : w.heap.size + 1 < w2.heap.size + 1 := (by omega))); (try (have : w.heap.size + 1 < w2.heap.size + 1 + 1 := (by omega))); (try (have : w.heap.size + 1 + 1 < w2.heap.size := (by omega))); (try (have : w.heap.size + 1 + 1 < w2.heap.size + 1 := (by omega))); (try (have : w.heap.size + 1 + 1 < w2.heap.size + 1 + 1 := (by omega))); (try (have : w.heap.size + 1 + 1 + 1 < w2.heap.size := (by omega))); (try (have : w.heap.size + 1 + 1 + 1 < w2.heap.size + 1 := (by omega))); (try (have : w.heap.size + 1 + 1 + 1 < w2.heap.size + 1 + 1 := (by omega))); (try (have : w1.heap.size < w2.heap.size := (by omega))); (try (have : w1.heap.size < w2.heap.size + 1 := (by omega))); (try (have : w1.heap.size < w2.heap.size + 1 + 1 := (by omega))); (try (have : w1.heap.size + 1 < w2.heap.size := (by omega))); (try (have : w1.heap.size + 1 < w2.heap.size + 1 := (by omega))); (try (have : w1.heap.size + 1 < w2.heap.size + 1 + 1 := (by omega))); (try (have : w1.heap.size + 1 + 1 < w2.heap.size := (by omega))); (try (have : w1.heap.size + 1 + 1 < w2.heap.size + 1 := (by omega))); (try (have : w1.heap.size + 1 + 1 < w2.heap.size + 1 + 1 := (by omega))); (try (have : w1.heap.size + 1 + 1 + 1 < w2.heap.size := (by omega))); (try (have : w1.heap.size + 1 + 1 + 1 < w2.heap.size + 1 := (by omega))); (try (have : w1.heap.size + 1 + 1 + 1 < w2.heap.size + 1 + 1 := (by omega)))) | (go_at_call 72; refine (checkPlace_any _ _ _ _).mono ?_; rintro e w3 ⟨rfl, hb3⟩; have hc3 := (Free.cells_of hb3).1; have hf3 := (Free.cells_of hb3).2; have hz3 := hb3.size; (try simp only [World.size_alloc, World.size_setCell, World.size_drew] at hz3); (try (have : w.heap.size < w3.heap.size := (by omega))); (try (have : w.heap.size < w3.heap.size + 1 := (by omega))); (try (have : w.heap.size < w3.heap.size + 1 + 1 := (by omega))); (try (have : w.heap.size + 1 < w3.heap.size := (by omega))); (try (have : w.heap.size + 1 < w3.heap.size + 1 := (by omega))); (try (have : w.heap.size + 1 < w3.heap.size + 1 + 1 := (by omega))); (try (have : w.heap.size + 1 + 1 < w3.heap.size := (by omega))); (try (have : w.heap.size + 1 + 1 < w3.heap.size + 1 := (by omega))); (try (have : w.heap.size + 1 + 1 < w3.heap.size + 1 + 1 := (by omega))); (try (have : w.heap.size + 1 + 1 + 1 < w3.heap.size := (by omega))); (try (have : w.heap.size + 1 + 1 + 1 < w3.heap.size + 1 := (by omega))); (try (have : w.heap.size + 1 + 1 + 1 < w3.heap.size + 1 + 1 := (by omega))); (try (have : w1.heap.size < w3.heap.size := (by omega))); (try (have : w1.heap.size < w3.heap.size + 1 := (by omega))); (try (have : w1.heap.size < w3.heap.size + 1 + 1 := (by omega))); (try (have : w1.heap.size + 1 < w3.heap.size := (by omega))); (try (have : w1.heap.size + 1 < w3.heap.size + 1 := (by omega))); (try (have : w1.heap.size + 1 < w3.heap.size + 1 + 1 := (by omega))); (try (have : w1.heap.size + 1 + 1 < w3.heap.size := (by omega))); (try (have : w1.heap.size + 1 + 1 < w3.heap.size + 1 := (by omega))); (try (have : w1.heap.size + 1 + 1 < w3.heap.size + 1 + 1 := (by omega))); (try (have : w1.heap.size + 1 + 1 + 1 < w3.heap.size := (by omega))); (try (have : w1.heap.size + 1 + 1 + 1 < w3.heap.size + 1 := (by omega))); (try (have : w1.heap.size + 1 + 1 + 1 < w3.heap.size + 1 + 1 := (by omega))); (try (have : w2.heap.size < w3.heap.size := (by omega))); (try (have : w2.heap.size < w3.heap.size + 1 := (by omega))); (try (have : w2.heap.size < w3.heap.size + 1 + 1 := (by omega))); (try (have : w2.heap.size + 1 < w3.heap.size := (by omega))); (try (have : w2.heap.size + 1 < w3.heap.size + 1 := (by omega))); (try (have : w2.heap.size + 1 < w3.heap.size + 1 + 1 := (by omega))); (try (have : w2.heap.size + 1 + 1 < w3.heap.size := (by omega))); (try (have : w2.heap.size + 1 + 1 < w3.heap.size + 1 := (by omega))); (try (have : w2.heap.size + 1 + 1 < w3.heap.size + 1 + 1 := (by omega))); (try (have : w2.heap.size + 1 + 1 + 1 < w3.heap.size := (by omega))); (try (have : w2.heap.size + 1 + 1 + 1 < w3.heap.size + 1 := (by omega))); (try (have : w2.heap.size + 1 + 1 + 1 < w3.heap.size + 1 + 1 := (by omega)))) | (go_at_call 71; refine (first2_any _ c2 (placeE x y z) _ (by simp [go_sem]) (by simp [go_sem])).mono ?_; rintro e w' ⟨rfl, rfl⟩) | (go_at_call 79; refine (vectorOf_any _ _ _ _).mono ?_; rintro e w4 ⟨rfl, hb4⟩; have hc4 := (Free.cells_of hb4).1; have hf4 := (Free.cells_of hb4).2; have hz4 := hb4.size; (try simp only [World.size_alloc, World.size_setCell, World.size_drew] at hz4); (try (have : w.heap.size < w4.heap.size := (by omega))); (try (have : w.heap.size < w4.heap.size + 1 := (by omega))); (try (have : w.heap.size < w4.heap.size + 1 + 1 := (by omega))); (try (have : w.heap.size + 1 < w4.heap.size := (by omega))); (try (have : w.heap.size + 1 < w4.heap.size + 1 := (by omega))); (try (have : w.heap.size + 1 < w4.heap.size + 1 + 1 := (by omega))); (try (have : w.heap.size + 1 + 1 < w4.heap.size := (by omega))); (try (have : w.heap.size + 1 + 1 < w4.heap.size + 1 := (by omega))); (try (have : w.heap.size + 1 + 1 < w4.heap.size + 1 + 1 := (by omega))); (try (have : w.heap.size + 1 + 1 + 1 < w4.heap.size := (by omega))); (try (have : w.heap.size + 1 + 1 + 1 < w4.heap.size + 1 := (by omega))); (try (have : w.heap.size + 1 + 1 + 1 < w4.heap.size + 1 + 1 := (by omega))); (try (have : w1.heap.size < w4.heap.size := (by omega))); (try (have : w1.heap.size < w4.heap.size + 1 := (by omega))); (try (have : w1.heap.size < w4.heap.size + 1 + 1 := (by omega))); (try (have : w1.heap.size + 1 < w4.heap.size := (by omega))); (try (have : w1.heap.size + 1 < w4.heap.size + 1 := (by omega))); (try (have : w1.heap.size + 1 < w4.heap.size + 1 + 1 := (by omega))); (try (have : w1.heap.size + 1 + 1 < w4.heap.size := (by omega))); (try (have : w1.heap.size + 1 + 1 < w4.heap.size + 1 := (by omega))); (try (have : w1.heap.size + 1 + 1 < w4.heap.size + 1 + 1 := (by omega))); (try (have : w1.heap.size + 1 + 1 + 1 < w4.heap.size := (by omega))); (try (have : w1.heap.size + 1 + 1 + 1 < w4.heap.size + 1 := (by omega))); (try (have : w1.heap.size + 1 + 1 + 1 < w4.heap.size + 1 + 1 := (by omega))); (try (have : w2.heap.size < w4.heap.size := (by omega))); (try (have : w2.heap.size < w4.heap.size + 1 := (by omega))); (try (have : w2.heap.size < w4.heap.size + 1 + 1 := (by omega))); (try (have : w2.heap.size + 1 < w4.heap.size := (by omega))); (try (have : w2.heap.size + 1 < w4.heap.size + 1 := (by omega))); (try (have : w2.heap.size + 1 < w4.heap.size + 1 + 1 := (by omega))); (try (have : w2.heap.size + 1 + 1 < w4.heap.size := (by omega))); (try (have : w2.heap.size + 1 + 1 < w4.heap.size + 1 := (by omega))); (try (have : w2.heap.size + 1 + 1 < w4.heap.size + 1 + 1 := (by omega))); (try (have : w2.heap.size + 1 + 1 + 1 < w4.heap.size := (by omega))); (try (have : w2.heap.size + 1 + 1 + 1 < w4.heap.size + 1 := (by omega))); (try (have : w2.heap.size + 1 + 1 + 1 < w4.heap.size + 1 + 1 := (by omega))); (try (have : w3.heap.size < w4.heap.size := (by omega))); (try (have : w3.heap.size < w4.heap.size + 1 := (by omega))); (try (have : w3.heap.size < w4.heap.size + 1 + 1 := (by omega))); (try (have : w3.heap.size + 1 < w4.heap.size := (by omega))); (try (have : w3.heap.size + 1 < w4.heap.size + 1 := (by omega))); (try (have : w3.heap.size + 1 < w4.heap.size + 1 + 1 := (by omega))); (try (have : w3.heap.size + 1 + 1 < w4.heap.size := (by omega))); (try (have : w3.heap.size + 1 + 1 < w4.heap.size + 1 := (by omega))); (try (have : w3.heap.size + 1 + 1 < w4.heap.size + 1 + 1 := (by omega))); (try (have : w3.heap.size + 1 + 1 + 1 < w4.heap.size := (by omega))); (try (have : w3.heap.size + 1 + 1 + 1 < w4.heap.size + 1 := (by omega))); (try (have : w3.heap.size + 1 + 1 + 1 < w4.heap.size + 1 + 1 := (by omega)))))
      refine Free.wp_region 13 #[0, 1, 3, 0, 15, 0, 63, 0, 255, 0, 0, 2047, 4095] (by kernel_rfl) (by kernel_rfl) ?_
      simp only [List.take_succ_cons, List.take_zero]
      iterate 9
        refine Free.E.q (by rfl) ?_
        apply Exists.intro
        refine ⟨fun u w' hc hb => ?_, ?_⟩
        go_simp
        (try go_ints); (try simp only [Ob.ite_imx, Ob.ite_imn]); first | exact rfl | (go_simp; exact rfl) | ((go_at_call 79; exact vectorOf_any _ _ _ _)) | ((go_at_call 78; exact less_any _ _ _ _ _ _ _ (by omega) (by omega) (by omega))) | (simp only [↓IntWalk.iteOmega]; (try go_simp); exact rfl)
        simp only [Act.put, List.setIfInBounds_toArray, List.set_cons_zero, List.set_cons_succ, List.nil_append, List.cons_append]
      refine Free.E.new (z := #[.int .i64 0, .int .i64 0, .int .i64 0]) (by rfl) rfl (by kernel_rfl) ?_
      simp only [Act.put, List.setIfInBounds_toArray, List.set_cons_zero, List.set_cons_succ, List.nil_append, List.cons_append]
      refine Free.E.new (z := #[.int .i64 0, .int .i64 0, .int .i64 0]) (by rfl) rfl (by kernel_rfl) ?_
      simp only [Act.put, List.setIfInBounds_toArray, List.set_cons_zero, List.set_cons_succ, List.nil_append, List.cons_append]
      refine Free.E.init (k := 9) (by rfl) (by rfl) rfl rfl (by rfl) (by decide) (by rfl) (fun _ => rfl) (fun _ => rfl) (by kernel_rfl) rfl rfl (by rfl) ?_
      simp only [List.nil_append, List.cons_append]
      refine Free.E.init (k := 10) (by rfl) (by rfl) rfl rfl (by rfl) (by decide) (by rfl) (fun _ => rfl) (fun _ => rfl) (by kernel_rfl) rfl rfl (by rfl) ?_
      simp only [List.nil_append, List.cons_append]
      refine Free.E.nil (fun u w5 S hF => ?_)
      have hb5 := hF.below
      obtain ⟨b5_9, hu5_9, hlo5_9, hhi5_9, -, hk5_9⟩ := hF.allocs 9 _ _ rfl
      simp only [Free.final, List.findSome?, reduceIte, Option.getD_some, Option.getD_none, Nat.reduceEqDiff, Value.cells] at hk5_9
      obtain ⟨b5_10, hu5_10, hlo5_10, hhi5_10, -, hk5_10⟩ := hF.allocs 10 _ _ rfl
      simp only [Free.final, List.findSome?, reduceIte, Option.getD_some, Option.getD_none, Nat.reduceEqDiff, Value.cells] at hk5_10
      have hne5_9_10 := hF.apart 9 10 _ _ _ _ rfl rfl (by decide)
      rw [hu5_9, hu5_10] at hne5_9_10
      replace hne5_9_10 := Free.ptr_ne hne5_9_10
      clear hF
      have hc5 := (Free.cells_of hb5).1
      have hf5 := (Free.cells_of hb5).2
      have hz5 := hb5.size
      simp only [hu5_9, hu5_10]
      have hcb5_9 := Free.cell_of_blk hk5_9
      have hfb5_9 := Free.frozen_of_blk hk5_9
      clear hu5_9 hk5_9
      have hcb5_10 := Free.cell_of_blk hk5_10
      have hfb5_10 := Free.frozen_of_blk hk5_10
      clear hu5_10 hk5_10
      try simp only [World.size_alloc, World.size_setCell, World.size_drew] at hz5 hlo5_9 hlo5_10
      (try (have : w.heap.size < w5.heap.size := (by omega)))
      (try (have : w.heap.size < w5.heap.size + 1 := (by omega)))
      (try (have : w.heap.size < w5.heap.size + 1 + 1 := (by omega)))
      (try (have : w.heap.size + 1 < w5.heap.size := (by omega)))
      (try (have : w.heap.size + 1 < w5.heap.size + 1 := (by omega)))
      (try (have : w.heap.size + 1 < w5.heap.size + 1 + 1 := (by omega)))
      (try (have : w.heap.size + 1 + 1 < w5.heap.size := (by omega)))
      (try (have : w.heap.size + 1 + 1 < w5.heap.size + 1 := (by omega)))
      (try (have : w.heap.size + 1 + 1 < w5.heap.size + 1 + 1 := (by omega)))
      (try (have : w.heap.size + 1 + 1 + 1 < w5.heap.size := (by omega)))
      (try (have : w.heap.size + 1 + 1 + 1 < w5.heap.size + 1 := (by omega)))
      (try (have : w.heap.size + 1 + 1 + 1 < w5.heap.size + 1 + 1 := (by omega)))
      (try (have : w1.heap.size < w5.heap.size := (by omega)))
      (try (have : w1.heap.size < w5.heap.size + 1 := (by omega)))
      (try (have : w1.heap.size < w5.heap.size + 1 + 1 := (by omega)))
      (try (have : w1.heap.size + 1 < w5.heap.size := (by omega)))
      (try (have : w1.heap.size + 1 < w5.heap.size + 1 := (by omega)))
      (try (have : w1.heap.size + 1 < w5.heap.size + 1 + 1 := (by omega)))
      (try (have : w1.heap.size + 1 + 1 < w5.heap.size := (by omega)))
      (try (have : w1.heap.size + 1 + 1 < w5.heap.size + 1 := (by omega)))
      (try (have : w1.heap.size + 1 + 1 < w5.heap.size + 1 + 1 := (by omega)))
      (try (have : w1.heap.size + 1 + 1 + 1 < w5.heap.size := (by omega)))
      (try (have : w1.heap.size + 1 + 1 + 1 < w5.heap.size + 1 := (by omega)))
      (try (have : w1.heap.size + 1 + 1 + 1 < w5.heap.size + 1 + 1 := (by omega)))
      (try (have : w2.heap.size < w5.heap.size := (by omega)))
      (try (have : w2.heap.size < w5.heap.size + 1 := (by omega)))
      (try (have : w2.heap.size < w5.heap.size + 1 + 1 := (by omega)))
      (try (have : w2.heap.size + 1 < w5.heap.size := (by omega)))
      (try (have : w2.heap.size + 1 < w5.heap.size + 1 := (by omega)))
      (try (have : w2.heap.size + 1 < w5.heap.size + 1 + 1 := (by omega)))
      (try (have : w2.heap.size + 1 + 1 < w5.heap.size := (by omega)))
      (try (have : w2.heap.size + 1 + 1 < w5.heap.size + 1 := (by omega)))
      (try (have : w2.heap.size + 1 + 1 < w5.heap.size + 1 + 1 := (by omega)))
      (try (have : w2.heap.size + 1 + 1 + 1 < w5.heap.size := (by omega)))
      (try (have : w2.heap.size + 1 + 1 + 1 < w5.heap.size + 1 := (by omega)))
      (try (have : w2.heap.size + 1 + 1 + 1 < w5.heap.size + 1 + 1 := (by omega)))
      (try (have : w3.heap.size < w5.heap.size := (by omega)))
      (try (have : w3.heap.size < w5.heap.size + 1 := (by omega)))
      (try (have : w3.heap.size < w5.heap.size + 1 + 1 := (by omega)))
      (try (have : w3.heap.size + 1 < w5.heap.size := (by omega)))
      (try (have : w3.heap.size + 1 < w5.heap.size + 1 := (by omega)))
      (try (have : w3.heap.size + 1 < w5.heap.size + 1 + 1 := (by omega)))
      (try (have : w3.heap.size + 1 + 1 < w5.heap.size := (by omega)))
      (try (have : w3.heap.size + 1 + 1 < w5.heap.size + 1 := (by omega)))
      (try (have : w3.heap.size + 1 + 1 < w5.heap.size + 1 + 1 := (by omega)))
      (try (have : w3.heap.size + 1 + 1 + 1 < w5.heap.size := (by omega)))
      (try (have : w3.heap.size + 1 + 1 + 1 < w5.heap.size + 1 := (by omega)))
      (try (have : w3.heap.size + 1 + 1 + 1 < w5.heap.size + 1 + 1 := (by omega)))
      (try (have : w4.heap.size < w5.heap.size := (by omega)))
      (try (have : w4.heap.size < w5.heap.size + 1 := (by omega)))
      (try (have : w4.heap.size < w5.heap.size + 1 + 1 := (by omega)))
      (try (have : w4.heap.size + 1 < w5.heap.size := (by omega)))
      (try (have : w4.heap.size + 1 < w5.heap.size + 1 := (by omega)))
      (try (have : w4.heap.size + 1 < w5.heap.size + 1 + 1 := (by omega)))
      (try (have : w4.heap.size + 1 + 1 < w5.heap.size := (by omega)))
      (try (have : w4.heap.size + 1 + 1 < w5.heap.size + 1 := (by omega)))
      (try (have : w4.heap.size + 1 + 1 < w5.heap.size + 1 + 1 := (by omega)))
      (try (have : w4.heap.size + 1 + 1 + 1 < w5.heap.size := (by omega)))
      (try (have : w4.heap.size + 1 + 1 + 1 < w5.heap.size + 1 := (by omega)))
      (try (have : w4.heap.size + 1 + 1 + 1 < w5.heap.size + 1 + 1 := (by omega)))
      simp only [List.drop_succ_cons, List.drop_zero, List.drop_nil]
      rcases key with ⟨t1, rfl⟩ | ⟨t1, t2, rfl⟩ | ⟨t1, t2, rfl⟩
      · have t1' := t1.out
        go_wp2
        first | (go_ret2; exact HR.out _ (by repeat' first | with_reducible exact Below.refl _ _ | with_reducible assumption | with_reducible refine Free.Grow.alloc ?_ _ | with_reducible refine Free.Grow.setCell ?_ (by first | omega | (simp; done) | (simp; omega)) _ | with_reducible refine Free.Grow.drew ?_ | with_reducible refine Free.Grow.trans ?_ (by assumption))) | exact HR.out _ (by repeat' first | with_reducible exact Below.refl _ _ | with_reducible assumption | with_reducible refine Free.Grow.alloc ?_ _ | with_reducible refine Free.Grow.setCell ?_ (by first | omega | (simp; done) | (simp; omega)) _ | with_reducible refine Free.Grow.drew ?_ | with_reducible refine Free.Grow.trans ?_ (by assumption))
      · have t1' := t1.out
        have t2' := t2.out
        go_wp2
        first | (go_ret2; exact HR.out _ (by repeat' first | with_reducible exact Below.refl _ _ | with_reducible assumption | with_reducible refine Free.Grow.alloc ?_ _ | with_reducible refine Free.Grow.setCell ?_ (by first | omega | (simp; done) | (simp; omega)) _ | with_reducible refine Free.Grow.drew ?_ | with_reducible refine Free.Grow.trans ?_ (by assumption))) | exact HR.out _ (by repeat' first | with_reducible exact Below.refl _ _ | with_reducible assumption | with_reducible refine Free.Grow.alloc ?_ _ | with_reducible refine Free.Grow.setCell ?_ (by first | omega | (simp; done) | (simp; omega)) _ | with_reducible refine Free.Grow.drew ?_ | with_reducible refine Free.Grow.trans ?_ (by assumption))
      · have t1' := t1.out
        have t2' := t2.out
        go_wp2
        first | (go_ret2; exact HR.out _ (by repeat' first | with_reducible exact Below.refl _ _ | with_reducible assumption | with_reducible refine Free.Grow.alloc ?_ _ | with_reducible refine Free.Grow.setCell ?_ (by first | omega | (simp; done) | (simp; omega)) _ | with_reducible refine Free.Grow.drew ?_ | with_reducible refine Free.Grow.trans ?_ (by assumption))) | exact HR.out _ (by repeat' first | with_reducible exact Below.refl _ _ | with_reducible assumption | with_reducible refine Free.Grow.alloc ?_ _ | with_reducible refine Free.Grow.setCell ?_ (by first | omega | (simp; done) | (simp; omega)) _ | with_reducible refine Free.Grow.drew ?_ | with_reducible refine Free.Grow.trans ?_ (by assumption))
    · have HS : sideOr nm.data.toList bd l k x y z = 0 := by unfold sideOr; rw [HE, if_neg h]
      rw [HS, HE]
      have hE0 : (firstE [arcE l k, placeE x y z] != 0) = true := by simpa using h
      clear HS HE h h1 hO hmem hR
      generalize (orbE nm.data.toList bd l).2 = c at *
      generalize arcA l k = sa at *
      generalize arcZ l k = sb at *
      generalize arcE l k = c2 at *
      refine Calls.made fun R HR => ?_
      go_enter Try.func44, Try.ntmps44
      go_wp2_with (first | (go_at_call 70; refine (HA.out _ (HO.out.below (by repeat' first | with_reducible exact Below.refl _ _ | with_reducible assumption | with_reducible refine Free.Grow.alloc ?_ _ | with_reducible refine Free.Grow.setCell ?_ (by first | omega | (simp; done) | (simp; omega)) _ | with_reducible refine Free.Grow.drew ?_ | with_reducible refine Free.Grow.trans ?_ (by assumption)))).mono ?_; rintro e w1 ⟨rfl, hb1⟩; have hc1 := (Free.cells_of hb1).1; have hf1 := (Free.cells_of hb1).2; have hz1 := hb1.size; (try simp only [World.size_alloc, World.size_setCell, World.size_drew] at hz1); (try (have : w.heap.size < w1.heap.size := (by omega))); (try (have : w.heap.size < w1.heap.size + 1 := (by omega))); (try (have : w.heap.size < w1.heap.size + 1 + 1 := (by omega))); (try (have : w.heap.size + 1 < w1.heap.size := (by omega))); (try (have : w.heap.size + 1 < w1.heap.size + 1 := (by omega))); (try (have : w.heap.size + 1 < w1.heap.size + 1 + 1 := (by omega))); (try (have : w.heap.size + 1 + 1 < w1.heap.size := (by omega))); (try (have : w.heap.size + 1 + 1 < w1.heap.size + 1 := (by omega))); (try (have : w.heap.size + 1 + 1 < w1.heap.size + 1 + 1 := (by omega))); (try (have : w.heap.size + 1 + 1 + 1 < w1.heap.size := (by omega))); (try (have : w.heap.size + 1 + 1 + 1 < w1.heap.size + 1 := (by omega))); (try (have : w.heap.size + 1 + 1 + 1 < w1.heap.size + 1 + 1 := (by omega)))) | (go_at_call 101; refine (HAr.out _ (HM.out.below (B := w.heap.size) (by repeat' first | with_reducible exact Below.refl _ _ | with_reducible assumption | with_reducible refine Free.Grow.alloc ?_ _ | with_reducible refine Free.Grow.setCell ?_ (by first | omega | (simp; done) | (simp; omega)) _ | with_reducible refine Free.Grow.drew ?_ | with_reducible refine Free.Grow.trans ?_ (by assumption)) hbw) (by first | omega | (simp; done) | (simp; omega))).mono ?_; rintro e w2 ⟨rfl, hb2⟩; have hc2 := (Free.cells_of hb2).1; have hf2 := (Free.cells_of hb2).2; have hz2 := hb2.size; (try simp only [World.size_alloc, World.size_setCell, World.size_drew] at hz2); (try (have : w.heap.size < w2.heap.size := (by omega))); (try (have : w.heap.size < w2.heap.size + 1 := (by omega))); (try (have : w.heap.size < w2.heap.size + 1 + 1 := (by omega))); (try (have : w.heap.size + 1 < w2.heap.size := (by omega))); (try (have : w.heap.size + 1 < w2.heap.size + 1 := (by omega))); (try (have : w.heap.size + 1 < w2.heap.size + 1 + 1 := (by omega))); (try (have : w.heap.size + 1 + 1 < w2.heap.size := (by omega))); (try (have : w.heap.size + 1 + 1 < w2.heap.size + 1 := (by omega))); (try (have : w.heap.size + 1 + 1 < w2.heap.size + 1 + 1 := (by omega))); (try (have : w.heap.size + 1 + 1 + 1 < w2.heap.size := (by omega))); (try (have : w.heap.size + 1 + 1 + 1 < w2.heap.size + 1 := (by omega))); (try (have : w.heap.size + 1 + 1 + 1 < w2.heap.size + 1 + 1 := (by omega))); (try (have : w1.heap.size < w2.heap.size := (by omega))); (try (have : w1.heap.size < w2.heap.size + 1 := (by omega))); (try (have : w1.heap.size < w2.heap.size + 1 + 1 := (by omega))); (try (have : w1.heap.size + 1 < w2.heap.size := (by omega))); (try (have : w1.heap.size + 1 < w2.heap.size + 1 := (by omega))); (try (have : w1.heap.size + 1 < w2.heap.size + 1 + 1 := (by omega))); (try (have : w1.heap.size + 1 + 1 < w2.heap.size := (by omega))); (try (have : w1.heap.size + 1 + 1 < w2.heap.size + 1 := (by omega))); (try (have : w1.heap.size + 1 + 1 < w2.heap.size + 1 + 1 := (by omega))); (try (have : w1.heap.size + 1 + 1 + 1 < w2.heap.size := (by omega))); (try (have : w1.heap.size + 1 + 1 + 1 < w2.heap.size + 1 := (by omega))); (try (have : w1.heap.size + 1 + 1 + 1 < w2.heap.size + 1 + 1 := (by omega)))) | (go_at_call 72; refine (checkPlace_any _ _ _ _).mono ?_; rintro e w3 ⟨rfl, hb3⟩; have hc3 := (Free.cells_of hb3).1; have hf3 := (Free.cells_of hb3).2; have hz3 := hb3.size; (try simp only [World.size_alloc, World.size_setCell, World.size_drew] at hz3); (try (have : w.heap.size < w3.heap.size := (by omega))); (try (have : w.heap.size < w3.heap.size + 1 := (by omega))); (try (have : w.heap.size < w3.heap.size + 1 + 1 := (by omega))); (try (have : w.heap.size + 1 < w3.heap.size := (by omega))); (try (have : w.heap.size + 1 < w3.heap.size + 1 := (by omega))); (try (have : w.heap.size + 1 < w3.heap.size + 1 + 1 := (by omega))); (try (have : w.heap.size + 1 + 1 < w3.heap.size := (by omega))); (try (have : w.heap.size + 1 + 1 < w3.heap.size + 1 := (by omega))); (try (have : w.heap.size + 1 + 1 < w3.heap.size + 1 + 1 := (by omega))); (try (have : w.heap.size + 1 + 1 + 1 < w3.heap.size := (by omega))); (try (have : w.heap.size + 1 + 1 + 1 < w3.heap.size + 1 := (by omega))); (try (have : w.heap.size + 1 + 1 + 1 < w3.heap.size + 1 + 1 := (by omega))); (try (have : w1.heap.size < w3.heap.size := (by omega))); (try (have : w1.heap.size < w3.heap.size + 1 := (by omega))); (try (have : w1.heap.size < w3.heap.size + 1 + 1 := (by omega))); (try (have : w1.heap.size + 1 < w3.heap.size := (by omega))); (try (have : w1.heap.size + 1 < w3.heap.size + 1 := (by omega))); (try (have : w1.heap.size + 1 < w3.heap.size + 1 + 1 := (by omega))); (try (have : w1.heap.size + 1 + 1 < w3.heap.size := (by omega))); (try (have : w1.heap.size + 1 + 1 < w3.heap.size + 1 := (by omega))); (try (have : w1.heap.size + 1 + 1 < w3.heap.size + 1 + 1 := (by omega))); (try (have : w1.heap.size + 1 + 1 + 1 < w3.heap.size := (by omega))); (try (have : w1.heap.size + 1 + 1 + 1 < w3.heap.size + 1 := (by omega))); (try (have : w1.heap.size + 1 + 1 + 1 < w3.heap.size + 1 + 1 := (by omega))); (try (have : w2.heap.size < w3.heap.size := (by omega))); (try (have : w2.heap.size < w3.heap.size + 1 := (by omega))); (try (have : w2.heap.size < w3.heap.size + 1 + 1 := (by omega))); (try (have : w2.heap.size + 1 < w3.heap.size := (by omega))); (try (have : w2.heap.size + 1 < w3.heap.size + 1 := (by omega))); (try (have : w2.heap.size + 1 < w3.heap.size + 1 + 1 := (by omega))); (try (have : w2.heap.size + 1 + 1 < w3.heap.size := (by omega))); (try (have : w2.heap.size + 1 + 1 < w3.heap.size + 1 := (by omega))); (try (have : w2.heap.size + 1 + 1 < w3.heap.size + 1 + 1 := (by omega))); (try (have : w2.heap.size + 1 + 1 + 1 < w3.heap.size := (by omega))); (try (have : w2.heap.size + 1 + 1 + 1 < w3.heap.size + 1 := (by omega))); (try (have : w2.heap.size + 1 + 1 + 1 < w3.heap.size + 1 + 1 := (by omega)))) | (go_at_call 71; refine (first2_any _ c2 (placeE x y z) _ (by simp [go_sem]) (by simp [go_sem])).mono ?_; rintro e w' ⟨rfl, rfl⟩))
      first | (go_ret2; exact HR.out _ (by repeat' first | with_reducible exact Below.refl _ _ | with_reducible assumption | with_reducible refine Free.Grow.alloc ?_ _ | with_reducible refine Free.Grow.setCell ?_ (by first | omega | (simp; done) | (simp; omega)) _ | with_reducible refine Free.Grow.drew ?_ | with_reducible refine Free.Grow.trans ?_ (by assumption))) | exact HR.out _ (by repeat' first | with_reducible exact Below.refl _ _ | with_reducible assumption | with_reducible refine Free.Grow.alloc ?_ _ | with_reducible refine Free.Grow.setCell ?_ (by first | omega | (simp; done) | (simp; omega)) _ | with_reducible refine Free.Grow.drew ?_ | with_reducible refine Free.Grow.trans ?_ (by assumption))
  · have HE : sideE nm.data.toList bd l k x y z = (orbE nm.data.toList bd l).2 := by unfold sideE; rw [if_pos h1]
    have HS : sideOr nm.data.toList bd l k x y z = 0 := by unfold sideOr; rw [HE, if_neg h1]
    rw [HS, HE]
    have hb0 : ((orbE nm.data.toList bd l).2 != 0) = true := by simpa using h1
    have HO := Lib.hid hO
    clear HS HE h1 hO
    generalize (orbE nm.data.toList bd l).2 = c at *
    refine Calls.made fun R HR => ?_
    go_enter Try.func44, Try.ntmps44
    go_wp2_with (go_at_call 70; refine (HA.out _ (HO.out.below (by repeat' first | with_reducible exact Below.refl _ _ | with_reducible assumption | with_reducible refine Free.Grow.alloc ?_ _ | with_reducible refine Free.Grow.setCell ?_ (by first | omega | (simp; done) | (simp; omega)) _ | with_reducible refine Free.Grow.drew ?_ | with_reducible refine Free.Grow.trans ?_ (by assumption)))).mono ?_; rintro e w1 ⟨rfl, hb1⟩; have hc1 := (Free.cells_of hb1).1; have hf1 := (Free.cells_of hb1).2; have hz1 := hb1.size; (try simp only [World.size_alloc, World.size_setCell, World.size_drew] at hz1); (try (have : w.heap.size < w1.heap.size := (by omega))); (try (have : w.heap.size < w1.heap.size + 1 := (by omega))); (try (have : w.heap.size < w1.heap.size + 1 + 1 := (by omega))); (try (have : w.heap.size + 1 < w1.heap.size := (by omega))); (try (have : w.heap.size + 1 < w1.heap.size + 1 := (by omega))); (try (have : w.heap.size + 1 < w1.heap.size + 1 + 1 := (by omega))); (try (have : w.heap.size + 1 + 1 < w1.heap.size := (by omega))); (try (have : w.heap.size + 1 + 1 < w1.heap.size + 1 := (by omega))); (try (have : w.heap.size + 1 + 1 < w1.heap.size + 1 + 1 := (by omega))); (try (have : w.heap.size + 1 + 1 + 1 < w1.heap.size := (by omega))); (try (have : w.heap.size + 1 + 1 + 1 < w1.heap.size + 1 := (by omega))); (try (have : w.heap.size + 1 + 1 + 1 < w1.heap.size + 1 + 1 := (by omega))))
    first | (go_ret2; exact HR.out _ (by repeat' first | with_reducible exact Below.refl _ _ | with_reducible assumption | with_reducible refine Free.Grow.alloc ?_ _ | with_reducible refine Free.Grow.setCell ?_ (by first | omega | (simp; done) | (simp; omega)) _ | with_reducible refine Free.Grow.drew ?_ | with_reducible refine Free.Grow.trans ?_ (by assumption))) | exact HR.out _ (by repeat' first | with_reducible exact Below.refl _ _ | with_reducible assumption | with_reducible refine Free.Grow.alloc ?_ _ | with_reducible refine Free.Grow.setCell ?_ (by first | omega | (simp; done) | (simp; omega)) _ | with_reducible refine Free.Grow.drew ?_ | with_reducible refine Free.Grow.trans ?_ (by assumption))

set_option maxRecDepth 100000 in
set_option maxHeartbeats 2000000 in
theorem rSideOf_any (nm : ByteArray) (bd k x y z : Int) (b off cap : Nat) (l : List St) (w : World) (hR : Right bd l) (hk0 : 0 ≤ k) (hk1 : k.toNat + 1 < l.length) (hx : -100000000 ≤ x ∧ x ≤ 100000000) (hy : -100000000 ≤ y ∧ y ≤ 100000000) (hS : HasSts w b off l) (hbw : b < w.heap.size) :
    Calls Try.prog 45 #[obV nm bd (some ⟨b, off, none⟩) l.length cap, .int .i64 k, v3 x y z] w fun e w' => e = .returned (.int .i64 (sideV (at_ l k.toNat) (at_ l (k.toNat + 1)) x y)) ∧ Below w.heap.size w w' := by
  obtain ⟨j, rfl⟩ := Int.eq_ofNat_of_zero_le hk0
  simp only [Int.toNat_natCast] at hk1 ⊢
  have hn40 := hR.n40
  obtain ⟨c1, c2, c3, c4, c5⟩ := hS j (by omega)
  obtain ⟨d1, d2, d3, d4, d5⟩ := hS (j + 1) (by omega)
  have oka := hR.ok j (by omega)
  have okb := hR.ok (j + 1) hk1
  generalize at_ l j = sa at *
  generalize at_ l (j + 1) = sb at *
  obtain ⟨p1, p2, p3, p4, p5⟩ := sa
  obtain ⟨q1, q2, q3, q4, q5⟩ := sb
  obtain ⟨_, _, oa3, oa4, oa5, oa6, oa7, oa8, _, _⟩ := oka
  obtain ⟨_, _, ob3, ob4, ob5, ob6, ob7, ob8, _, _⟩ := okb
  obtain ⟨x0, x1⟩ := hx
  obtain ⟨y0, y1⟩ := hy
  simp only at oa3 oa4 oa5 oa6 oa7 oa8 ob3 ob4 ob5 ob6 ob7 ob8 c1 c2 c3 c4 c5 d1 d2 d3 d4 d5
  obtain ⟨u0, u1⟩ := prod_bd (a := q2 - p2) (b := y - p3) (by omega) (by omega) (by omega) (by omega)
  obtain ⟨u2, u3⟩ := prod_bd (a := q3 - p3) (b := x - p2) (by omega) (by omega) (by omega) (by omega)
  have hj0 : (j : Int) < l.length := by omega
  have hj1 : (j : Int) + 1 < l.length := by omega
  have hj2 : (j : Int) ≤ 1000 := by omega
  have : b < w.heap.size := (by omega); have : b < w.heap.size + 1 := (by omega); have : b < w.heap.size + 1 + 1 := (by omega)
  clear hS hR
  refine Calls.made fun R HR => ?_
  have HQ : Hid (∀ v, sideV ⟨p1, p2, p3, p4, p5⟩ ⟨q1, q2, q3, q4, q5⟩ x y = v → ∀ w', Below w.heap.size w w' → R (.returned (.int .i64 v)) w') := fun v h w' hb => by have := HR.out w' hb; rw [h] at this; exact this
  clear HR
  have key : ∃ v, Hid (∀ w', Below w.heap.size w w' → R (.returned (.int .i64 v)) w') ∧ ((Hid (0 < (q2 - p2) * (y - p3) - (q3 - p3) * (x - p2)) ∧ v = 1) ∨ (Hid (¬ 0 < (q2 - p2) * (y - p3) - (q3 - p3) * (x - p2)) ∧ Hid ((q2 - p2) * (y - p3) - (q3 - p3) * (x - p2) < 0) ∧ v = 2) ∨ (Hid (¬ 0 < (q2 - p2) * (y - p3) - (q3 - p3) * (x - p2)) ∧ Hid (¬ (q2 - p2) * (y - p3) - (q3 - p3) * (x - p2) < 0) ∧ v = 0)) := by
    refine ⟨_, HQ.out _ rfl, ?_⟩
    unfold sideV turnV
    simp only
    by_cases t1 : 0 < (q2 - p2) * (y - p3) - (q3 - p3) * (x - p2)
    · exact .inl ⟨t1, by rw [if_pos t1]⟩
    · by_cases t2 : (q2 - p2) * (y - p3) - (q3 - p3) * (x - p2) < 0
      · exact .inr (.inl ⟨t1, t2, by rw [if_neg t1, if_pos t2]⟩)
      · exact .inr (.inr ⟨t1, t2, by rw [if_neg t1, if_neg t2]⟩)
  clear HQ
  obtain ⟨v, HR, key⟩ := key
  go_enter Try.func45, Try.ntmps45
  go_wp2
  refine Free.wp_region 17 #[0, 1, 0, 7, 15, 31, 0, 64, 0, 256, 960, 1984, 4032, 0, 0, 24639, 65535] (by kernel_rfl) (by kernel_rfl) ?_
  simp only [List.take_succ_cons, List.take_zero]
  iterate 13
    refine Free.E.q (by rfl) ?_
    apply Exists.intro
    refine ⟨fun u w' hc hb => ?_, ?_⟩
    go_simp
    (try go_ints); (try simp only [Ob.ite_imx, Ob.ite_imn]); first | exact rfl | (go_simp; exact rfl) | (simp only [↓IntWalk.iteOmega]; (try go_simp); exact rfl)
    simp only [Act.put, List.setIfInBounds_toArray, List.set_cons_zero, List.set_cons_succ, List.nil_append, List.cons_append]
  refine Free.E.new (z := #[.int .i64 0, .int .i64 0, .int .i64 0]) (by rfl) rfl (by kernel_rfl) ?_
  simp only [Act.put, List.setIfInBounds_toArray, List.set_cons_zero, List.set_cons_succ, List.nil_append, List.cons_append]
  refine Free.E.new (z := #[.int .i64 0, .int .i64 0, .int .i64 0]) (by rfl) rfl (by kernel_rfl) ?_
  simp only [Act.put, List.setIfInBounds_toArray, List.set_cons_zero, List.set_cons_succ, List.nil_append, List.cons_append]
  refine Free.E.init (k := 13) (by rfl) (by rfl) rfl rfl (by rfl) (by decide) (by rfl) (fun _ => rfl) (fun _ => rfl) (by kernel_rfl) rfl rfl (by rfl) ?_
  simp only [List.nil_append, List.cons_append]
  refine Free.E.init (k := 14) (by rfl) (by rfl) rfl rfl (by rfl) (by decide) (by rfl) (fun _ => rfl) (fun _ => rfl) (by kernel_rfl) rfl rfl (by rfl) ?_
  simp only [List.nil_append, List.cons_append]
  refine Free.E.nil (fun u w1 S hF => ?_)
  have hb1 := hF.below
  obtain ⟨b1_13, hu1_13, hlo1_13, hhi1_13, -, hk1_13⟩ := hF.allocs 13 _ _ rfl
  simp only [Free.final, List.findSome?, reduceIte, Option.getD_some, Option.getD_none, Nat.reduceEqDiff, Value.cells] at hk1_13
  obtain ⟨b1_14, hu1_14, hlo1_14, hhi1_14, -, hk1_14⟩ := hF.allocs 14 _ _ rfl
  simp only [Free.final, List.findSome?, reduceIte, Option.getD_some, Option.getD_none, Nat.reduceEqDiff, Value.cells] at hk1_14
  have hne1_13_14 := hF.apart 13 14 _ _ _ _ rfl rfl (by decide)
  rw [hu1_13, hu1_14] at hne1_13_14
  replace hne1_13_14 := Free.ptr_ne hne1_13_14
  clear hF
  have hc1 := (Free.cells_of hb1).1
  have hf1 := (Free.cells_of hb1).2
  have hz1 := hb1.size
  simp only [hu1_13, hu1_14]
  have hcb1_13 := Free.cell_of_blk hk1_13
  have hfb1_13 := Free.frozen_of_blk hk1_13
  clear hu1_13 hk1_13
  have hcb1_14 := Free.cell_of_blk hk1_14
  have hfb1_14 := Free.frozen_of_blk hk1_14
  clear hu1_14 hk1_14
  try simp only [World.size_alloc, World.size_setCell, World.size_drew] at hz1 hlo1_13 hlo1_14
  (try (have : w.heap.size < w1.heap.size := (by omega)))
  (try (have : w.heap.size < w1.heap.size + 1 := (by omega)))
  (try (have : w.heap.size < w1.heap.size + 1 + 1 := (by omega)))
  (try (have : w.heap.size + 1 < w1.heap.size := (by omega)))
  (try (have : w.heap.size + 1 < w1.heap.size + 1 := (by omega)))
  (try (have : w.heap.size + 1 < w1.heap.size + 1 + 1 := (by omega)))
  (try (have : w.heap.size + 1 + 1 < w1.heap.size := (by omega)))
  (try (have : w.heap.size + 1 + 1 < w1.heap.size + 1 := (by omega)))
  (try (have : w.heap.size + 1 + 1 < w1.heap.size + 1 + 1 := (by omega)))
  (try (have : w.heap.size + 1 + 1 + 1 < w1.heap.size := (by omega)))
  (try (have : w.heap.size + 1 + 1 + 1 < w1.heap.size + 1 := (by omega)))
  (try (have : w.heap.size + 1 + 1 + 1 < w1.heap.size + 1 + 1 := (by omega)))
  (try (have : b < w1.heap.size := (by omega)))
  (try (have : b < w1.heap.size + 1 := (by omega)))
  (try (have : b < w1.heap.size + 1 + 1 := (by omega)))
  simp only [List.drop_succ_cons, List.drop_zero, List.drop_nil]
  rcases key with ⟨t1, rfl⟩ | ⟨t1, t2, rfl⟩ | ⟨t1, t2, rfl⟩
  · have t1' := t1.out
    go_wp2
    first | (go_ret; exact HR.out _ (by repeat' first | with_reducible exact Below.refl _ _ | with_reducible assumption | with_reducible refine Free.Grow.alloc ?_ _ | with_reducible refine Free.Grow.setCell ?_ (by first | omega | (simp; done) | (simp; omega)) _ | with_reducible refine Free.Grow.drew ?_ | with_reducible refine Free.Grow.trans ?_ (by assumption))) | exact HR.out _ (by repeat' first | with_reducible exact Below.refl _ _ | with_reducible assumption | with_reducible refine Free.Grow.alloc ?_ _ | with_reducible refine Free.Grow.setCell ?_ (by first | omega | (simp; done) | (simp; omega)) _ | with_reducible refine Free.Grow.drew ?_ | with_reducible refine Free.Grow.trans ?_ (by assumption))
  · have t1' := t1.out
    have t2' := t2.out
    go_wp2
    first | (go_ret; exact HR.out _ (by repeat' first | with_reducible exact Below.refl _ _ | with_reducible assumption | with_reducible refine Free.Grow.alloc ?_ _ | with_reducible refine Free.Grow.setCell ?_ (by first | omega | (simp; done) | (simp; omega)) _ | with_reducible refine Free.Grow.drew ?_ | with_reducible refine Free.Grow.trans ?_ (by assumption))) | exact HR.out _ (by repeat' first | with_reducible exact Below.refl _ _ | with_reducible assumption | with_reducible refine Free.Grow.alloc ?_ _ | with_reducible refine Free.Grow.setCell ?_ (by first | omega | (simp; done) | (simp; omega)) _ | with_reducible refine Free.Grow.drew ?_ | with_reducible refine Free.Grow.trans ?_ (by assumption))
  · have t1' := t1.out
    have t2' := t2.out
    go_wp2
    first | (go_ret; exact HR.out _ (by repeat' first | with_reducible exact Below.refl _ _ | with_reducible assumption | with_reducible refine Free.Grow.alloc ?_ _ | with_reducible refine Free.Grow.setCell ?_ (by first | omega | (simp; done) | (simp; omega)) _ | with_reducible refine Free.Grow.drew ?_ | with_reducible refine Free.Grow.trans ?_ (by assumption))) | exact HR.out _ (by repeat' first | with_reducible exact Below.refl _ _ | with_reducible assumption | with_reducible refine Free.Grow.alloc ?_ _ | with_reducible refine Free.Grow.setCell ?_ (by first | omega | (simp; done) | (simp; omega)) _ | with_reducible refine Free.Grow.drew ?_ | with_reducible refine Free.Grow.trans ?_ (by assumption))
end Go.Proofs.Ythpjhpfebjjanaa
