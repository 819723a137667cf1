/- Chapter 2: the reference's point. -/
/- Chapter 2: the reference's nominal place and box. -/
/- Chapter 2, a plain law: the program's and the reference's boxes and nominal places are the same. -/
/- Chapter 2: boxes are small; SquareAt of the program. -/
import Derived.Test.YthhhkjbhhjcjoaaGreatDoor02t
import Derived.Test.YthhhkjbhhjcjoaaGreatDoor02Spec
import Derived.Deep.DeepCutAuto
import Derived.Deep.CutBlock
set_option linter.unusedSimpArgs false
set_option linter.unusedVariables false
section
namespace Go.Proofs.YthhhkjbhhjcjoaaGreatDoor
open Go.RowKit Go.Ob

set_option maxRecDepth 100000 in
set_option maxHeartbeats 1000000 in
theorem Err_any (nm : ByteArray) (bd : Int) (a : Option Addr) (cap : Nat) (l : List St) (w : World) (hO : OrbIn w nm a cap l) :
    Calls Tryz.prog 15 #[obV nm bd a l.length cap] w fun e w' => e = .returned (.int .i64 (orbE nm.data.toList bd l).2) ∧ Below w.heap.size w w' := by
  have HC := Lib.hid (fun w' (h : OrbIn w' nm a cap l) => rCheckOrbit_any nm bd a cap l w' h)
  have HO := Lib.hid hO
  clear hO
  generalize orbE nm.data.toList bd l = q at *
  obtain ⟨q1, q2⟩ := q
  refine Calls.made fun R HR => ?_
  go_enter Tryz.func15, Tryz.ntmps15
  go_wp2_with (go_at_call 51; refine (HC.out _ (HO.out.below (by repeat' first | with_reducible exact Below.refl _ _ | with_reducible assumption | with_reducible refine Free.Grow.alloc ?_ _ | with_reducible refine Free.Grow.setCell ?_ (by first | omega | (simp; done) | (simp; omega)) _ | with_reducible refine Free.Grow.drew ?_ | with_reducible refine Free.Grow.trans ?_ (by assumption)))).mono ?_; rintro e w1 ⟨rfl, hb1⟩; have hc1 := (Free.cells_of hb1).1; have hf1 := (Free.cells_of hb1).2; have hz1 := hb1.size; (try simp only [World.size_alloc, World.size_setCell, World.size_drew] at hz1); (try (have : w.heap.size < w1.heap.size := (by omega))); (try (have : w.heap.size < w1.heap.size + 1 := (by omega))); (try (have : w.heap.size < w1.heap.size + 1 + 1 := (by omega))); (try (have : w.heap.size + 1 < w1.heap.size := (by omega))); (try (have : w.heap.size + 1 < w1.heap.size + 1 := (by omega))); (try (have : w.heap.size + 1 < w1.heap.size + 1 + 1 := (by omega))); (try (have : w.heap.size + 1 + 1 < w1.heap.size := (by omega))); (try (have : w.heap.size + 1 + 1 < w1.heap.size + 1 := (by omega))); (try (have : w.heap.size + 1 + 1 < w1.heap.size + 1 + 1 := (by omega))); (try (have : w.heap.size + 1 + 1 + 1 < w1.heap.size := (by omega))); (try (have : w.heap.size + 1 + 1 + 1 < w1.heap.size + 1 := (by omega))); (try (have : w.heap.size + 1 + 1 + 1 < w1.heap.size + 1 + 1 := (by omega))))
  first | (go_ret; exact HR.out _ (by repeat' first | with_reducible exact Below.refl _ _ | with_reducible assumption | with_reducible refine Free.Grow.alloc ?_ _ | with_reducible refine Free.Grow.setCell ?_ (by first | omega | (simp; done) | (simp; omega)) _ | with_reducible refine Free.Grow.drew ?_ | with_reducible refine Free.Grow.trans ?_ (by assumption))) | exact HR.out _ (by repeat' first | with_reducible exact Below.refl _ _ | with_reducible assumption | with_reducible refine Free.Grow.alloc ?_ _ | with_reducible refine Free.Grow.setCell ?_ (by first | omega | (simp; done) | (simp; omega)) _ | with_reducible refine Free.Grow.drew ?_ | with_reducible refine Free.Grow.trans ?_ (by assumption))

end Go.Proofs.YthhhkjbhhjcjoaaGreatDoor
end

section
namespace Go.Proofs.YthhhkjbhhjcjoaaGreatDoor
open Go.RowKit Go.Ob

end Go.Proofs.YthhhkjbhhjcjoaaGreatDoor
namespace Go.Ob
structure PtR.Ok (p : PtR) : Prop where
  o0 : 1 ≤ p.den
  o1 : p.den ≤ 20000
  a00 : -4000000000000 ≤ p.a0
  a01 : p.a0 ≤ 4000000000000
  a10 : -4000000000000 ≤ p.a1
  a11 : p.a1 ≤ 4000000000000
  a20 : -4000000000000 ≤ p.a2
  a21 : p.a2 ≤ 4000000000000
  w0 : 0 ≤ p.wrong
  w1 : p.wrong ≤ 4000000000
  b0 : 0 ≤ p.bend
  b1 : p.bend ≤ 2000000000
end Go.Ob
namespace Go.Proofs.YthhhkjbhhjcjoaaGreatDoor
open Go.RowKit Go.Ob

def rNom (p : PtR) : P3 := ⟨rd p.a0 p.den, rd p.a1 p.den, rd p.a2 p.den⟩
def rBx (p : PtR) : Bx := ⟨dn p.a0 (p.wrong + p.bend) p.den, up p.a0 (p.wrong + p.bend) p.den, dn p.a1 (p.wrong + p.bend) p.den, up p.a1 (p.wrong + p.bend) p.den, dn p.a2 (p.wrong + p.bend) p.den, up p.a2 (p.wrong + p.bend) p.den⟩

end Go.Proofs.YthhhkjbhhjcjoaaGreatDoor
end

section
section
namespace Go.Proofs.YthhhkjbhhjcjoaaGreatDoor
open Go.RowKit Go.Ob

theorem idx_near {bd : Int} {l : List St} (hR : Right bd l) {t : Int} (h0 : frstT l ≤ t) (h1 : t ≤ lastT l) :
    (idx l t = kR l t ∧ (at_ l (kR l t)).t = t) ∨ (idx l t = kR l t + 1 ∧ (at_ l (kR l t)).t < t ∧ t ≤ (at_ l (kR l t + 1)).t) := by
  obtain ⟨hk1, hk2, hk3⟩ := kR_spec hR h0 h1
  by_cases h : (at_ l (kR l t)).t = t
  · left
    exact ⟨idx_of l t _ (by omega) (fun j hj => by have := hR.lt (kR l t) j hj (by omega); omega) (fun _ => by omega), h⟩
  · right
    exact ⟨idx_of l t _ (by omega) (fun j hj => by
      by_cases e : j = kR l t
      · subst e; omega
      · have := hR.lt (kR l t) j (by omega) (by omega); omega) (fun _ => hk3), by omega, hk3⟩

theorem scale_rd (x d : Int) (hd : 1 ≤ d) : rd (x * d) d = rd x 1 := by
  unfold rd
  rw [show 2 * (x * d) + d = (2 * x + 1) * d by rw [Int.add_mul, Int.one_mul, Int.mul_assoc], show (2 * d : Int) = 2 * 1 * d by omega]
  exact Int.mul_ediv_mul_of_pos_left _ _ (by omega)
theorem scale_dn (x e d : Int) (hd : 1 ≤ d) : dn (x * d) (e * d) d = dn x e 1 := by
  unfold dn
  rw [← Int.sub_mul, Int.mul_ediv_cancel _ (by omega), Int.ediv_one]
theorem scale_up (x e d : Int) (hd : 1 ≤ d) : up (x * d) (e * d) d = up x e 1 := by
  unfold up
  rw [← Int.add_mul, ← Int.neg_mul, Int.mul_ediv_cancel _ (by omega), Int.ediv_one]

theorem same_place {bd : Int} {l : List St} (hR : Right bd l) {t : Int} (h0 : frstT l ≤ t) (h1 : t ≤ lastT l) : rNom (ptR bd l t) = nom l t ∧ rBx (ptR bd l t) = bx bd l t := by
  obtain ⟨hk1, hk2, hk3⟩ := kR_spec hR h0 h1
  have hup := hR.up (kR l t) hk1
  unfold ptR nom bx
  rcases idx_near hR h0 h1 with ⟨hi, ht⟩ | ⟨hi, ht, ht2⟩
  · have hp : pt l t = ⟨(at_ l (kR l t)).x, (at_ l (kR l t)).y, (at_ l (kR l t)).z, (at_ l (kR l t)).e, 1, false⟩ := by unfold pt; rw [hi, if_pos ht]
    rw [hp]
    generalize at_ l (kR l t) = a at *
    generalize at_ l (kR l t + 1) = b at *
    have hg : t - a.t = 0 := by omega
    unfold prR rNom rBx nomP bxP offP
    simp only [hg, Int.mul_zero, Int.add_zero, Int.sub_zero, ne_eq, not_true_eq_false, false_and, if_false]
    have hd : 1 ≤ b.t - a.t := by omega
    simp [scale_rd _ _ hd, scale_dn _ _ _ hd, scale_up _ _ _ hd]
  · by_cases hf : (at_ l (kR l t + 1)).t = t
    · have hp : pt l t = ⟨(at_ l (kR l t + 1)).x, (at_ l (kR l t + 1)).y, (at_ l (kR l t + 1)).z, (at_ l (kR l t + 1)).e, 1, false⟩ := by unfold pt; rw [hi, if_pos hf]
      rw [hp]
      generalize at_ l (kR l t) = a at *
      generalize at_ l (kR l t + 1) = b at *
      have hg : t - a.t = b.t - a.t := by omega
      unfold prR rNom rBx nomP bxP offP
      simp only [hg, Int.sub_self, Int.mul_zero, Int.zero_add, ne_eq, not_true_eq_false, and_false, if_false, Int.add_zero]
      have hd : 1 ≤ b.t - a.t := by omega
      simp [scale_rd _ _ hd, scale_dn _ _ _ hd, scale_up _ _ _ hd]
    · have hp : pt l t = ptB (at_ l (kR l t)) (at_ l (kR l t + 1)) t := by rw [pt_bent (by rw [hi]; exact hf), hi]; rfl
      rw [hp]
      generalize at_ l (kR l t) = a at *
      generalize at_ l (kR l t + 1) = b at *
      unfold prR rNom rBx nomP bxP offP ptB
      have h3 : t - a.t ≠ 0 ∧ t - a.t ≠ b.t - a.t := ⟨by omega, by omega⟩
      simp [h3]
end Go.Proofs.YthhhkjbhhjcjoaaGreatDoor
end

section
namespace Go.Proofs.YthhhkjbhhjcjoaaGreatDoor
open Go.RowKit Go.Ob

theorem mix_in {u v s t M : Int} (hM : 0 ≤ M) (hu0 : -M ≤ u) (hu1 : u ≤ M) (hv0 : -M ≤ v) (hv1 : v ≤ M) (hs : 0 ≤ s) (ht : 0 ≤ t) :
    -(M * (s + t)) ≤ u * s + v * t ∧ u * s + v * t ≤ M * (s + t) := by
  have h1 := Int.mul_le_mul_of_nonneg_right hu0 hs
  have h2 := Int.mul_le_mul_of_nonneg_right hu1 hs
  have h3 := Int.mul_le_mul_of_nonneg_right hv0 ht
  have h4 := Int.mul_le_mul_of_nonneg_right hv1 ht
  rw [Int.neg_mul] at h1 h3
  rw [Int.mul_add]
  omega

theorem dn_in {n off d : Int} (hd : 1 ≤ d) (h1 : -(100000000 * d) ≤ n) (h2 : n ≤ 100000000 * d) (h3 : 0 ≤ off) (h4 : off ≤ 200000 * d) : -300000000 ≤ dn n off d ∧ dn n off d ≤ up n off d ∧ up n off d ≤ 300000000 := by
  have a := ediv_bd (n := n - off) (B := 300000000) hd (by omega) (by omega)
  have b := ediv_bd (n := -(n + off)) (B := 300000000) hd (by omega) (by omega)
  have c := dn_le_up (n := n) (off := off) (over := d) hd h3
  unfold dn up at *
  omega

theorem bx_ok {bd : Int} {l : List St} (hR : Right bd l) {t : Int} (h0 : frstT l ≤ t) (h1 : t ≤ lastT l) : (bx bd l t).Ok := by
  obtain ⟨hk1, hk2, hk3⟩ := kR_spec hR h0 h1
  have hup := hR.up (kR l t) hk1
  have hoka := hR.ok (kR l t) (by omega)
  have hokb := hR.ok (kR l t + 1) (by omega)
  have hb0 := hR.b0
  have hb1 := hR.b1
  rw [← (same_place hR h0 h1).2]
  unfold ptR
  generalize at_ l (kR l t) = a at *
  generalize at_ l (kR l t + 1) = b at *
  obtain ⟨p1, p2, p3, p4, p5⟩ := a
  obtain ⟨q1, q2, q3, q4, q5⟩ := b
  obtain ⟨oa1, oa2, oa3, oa4, oa5, oa6, oa7, oa8, oa9, oa10⟩ := hoka
  obtain ⟨ob1, ob2, ob3, ob4, ob5, ob6, ob7, ob8, ob9, ob10⟩ := hokb
  simp only at *
  have hs : q1 - p1 - (t - p1) + (t - p1) = q1 - p1 := by omega
  have m1 := mix_in (M := 100000000) (by omega) oa3 oa4 ob3 ob4 (s := q1 - p1 - (t - p1)) (t := t - p1) (by omega) (by omega)
  have m2 := mix_in (M := 100000000) (by omega) oa5 oa6 ob5 ob6 (s := q1 - p1 - (t - p1)) (t := t - p1) (by omega) (by omega)
  have m3 := mix_in (M := 100000000) (by omega) oa7 oa8 ob7 ob8 (s := q1 - p1 - (t - p1)) (t := t - p1) (by omega) (by omega)
  have m4 := mix_in (M := 100000) (by omega) (by omega) oa10 (by omega) ob10 (u := p5) (v := q5) (s := q1 - p1 - (t - p1)) (t := t - p1) (by omega) (by omega)
  have m4' := Int.mul_nonneg oa9 (show 0 ≤ q1 - p1 - (t - p1) by omega)
  have m4'' := Int.mul_nonneg ob9 (show 0 ≤ t - p1 by omega)
  have m5 := Int.mul_le_mul_of_nonneg_right hb1 (show 0 ≤ q1 - p1 by omega)
  have m6 := Int.mul_nonneg hb0 (show 0 ≤ q1 - p1 by omega)
  rw [hs] at m1 m2 m3 m4
  have hbend : 0 ≤ (prR bd ⟨p1, p2, p3, p4, p5⟩ ⟨q1, q2, q3, q4, q5⟩ t).bend ∧ (prR bd ⟨p1, p2, p3, p4, p5⟩ ⟨q1, q2, q3, q4, q5⟩ t).bend ≤ 100000 * (q1 - p1) := by
    unfold prR; simp only; split <;> omega
  have r1 := dn_in (d := q1 - p1) (off := (prR bd ⟨p1, p2, p3, p4, p5⟩ ⟨q1, q2, q3, q4, q5⟩ t).wrong + (prR bd ⟨p1, p2, p3, p4, p5⟩ ⟨q1, q2, q3, q4, q5⟩ t).bend) (by omega) m1.1 m1.2 (by simp only [prR] at hbend ⊢; omega) (by simp only [prR] at hbend ⊢; omega)
  have r2 := dn_in (d := q1 - p1) (off := (prR bd ⟨p1, p2, p3, p4, p5⟩ ⟨q1, q2, q3, q4, q5⟩ t).wrong + (prR bd ⟨p1, p2, p3, p4, p5⟩ ⟨q1, q2, q3, q4, q5⟩ t).bend) (by omega) m2.1 m2.2 (by simp only [prR] at hbend ⊢; omega) (by simp only [prR] at hbend ⊢; omega)
  have r3 := dn_in (d := q1 - p1) (off := (prR bd ⟨p1, p2, p3, p4, p5⟩ ⟨q1, q2, q3, q4, q5⟩ t).wrong + (prR bd ⟨p1, p2, p3, p4, p5⟩ ⟨q1, q2, q3, q4, q5⟩ t).bend) (by omega) m3.1 m3.2 (by simp only [prR] at hbend ⊢; omega) (by simp only [prR] at hbend ⊢; omega)
  exact ⟨r1.1, r1.2.1, r1.2.2, r2.1, r2.2.1, r2.2.2, r3.1, r3.2.1, r3.2.2⟩
end Go.Proofs.YthhhkjbhhjcjoaaGreatDoor
end
end
