/- Chapter 2: boxes are small; SquareAt of the program. -/
import Derived.Test.Ythpjhpfebjjanaa02w
set_option linter.unusedSimpArgs false
set_option linter.unusedVariables false
namespace Go.Proofs.Ythpjhpfebjjanaa
open Go.RowKit Go.Ob

theorem mix_in {u v s t M : Int} (hM : 0 ≤ M) (hu0 : -M ≤ u) (hu1 : u ≤ M) (hv0 : -M ≤ v) (hv1 : v ≤ M) (hs : 0 ≤ s) (ht : 0 ≤ t) :
    -(M * (s + t)) ≤ u * s + v * t ∧ u * s + v * t ≤ M * (s + t) := by
  have h1 := Int.mul_le_mul_of_nonneg_right hu0 hs
  have h2 := Int.mul_le_mul_of_nonneg_right hu1 hs
  have h3 := Int.mul_le_mul_of_nonneg_right hv0 ht
  have h4 := Int.mul_le_mul_of_nonneg_right hv1 ht
  rw [Int.neg_mul] at h1 h3
  rw [Int.mul_add]
  omega

theorem dn_in {n off d : Int} (hd : 1 ≤ d) (h1 : -(100000000 * d) ≤ n) (h2 : n ≤ 100000000 * d) (h3 : 0 ≤ off) (h4 : off ≤ 200000 * d) : -300000000 ≤ dn n off d ∧ dn n off d ≤ up n off d ∧ up n off d ≤ 300000000 := by
  have a := ediv_bd (n := n - off) (B := 300000000) hd (by omega) (by omega)
  have b := ediv_bd (n := -(n + off)) (B := 300000000) hd (by omega) (by omega)
  have c := dn_le_up (n := n) (off := off) (over := d) hd h3
  unfold dn up at *
  omega

theorem bx_ok {bd : Int} {l : List St} (hR : Right bd l) {t : Int} (h0 : frstT l ≤ t) (h1 : t ≤ lastT l) : (bx bd l t).Ok := by
  obtain ⟨hk1, hk2, hk3⟩ := kR_spec hR h0 h1
  have hup := hR.up (kR l t) hk1
  have hoka := hR.ok (kR l t) (by omega)
  have hokb := hR.ok (kR l t + 1) (by omega)
  have hb0 := hR.b0
  have hb1 := hR.b1
  rw [← (same_place hR h0 h1).2]
  unfold ptR
  generalize at_ l (kR l t) = a at *
  generalize at_ l (kR l t + 1) = b at *
  obtain ⟨p1, p2, p3, p4, p5⟩ := a
  obtain ⟨q1, q2, q3, q4, q5⟩ := b
  obtain ⟨oa1, oa2, oa3, oa4, oa5, oa6, oa7, oa8, oa9, oa10⟩ := hoka
  obtain ⟨ob1, ob2, ob3, ob4, ob5, ob6, ob7, ob8, ob9, ob10⟩ := hokb
  simp only at *
  have hs : q1 - p1 - (t - p1) + (t - p1) = q1 - p1 := by omega
  have m1 := mix_in (M := 100000000) (by omega) oa3 oa4 ob3 ob4 (s := q1 - p1 - (t - p1)) (t := t - p1) (by omega) (by omega)
  have m2 := mix_in (M := 100000000) (by omega) oa5 oa6 ob5 ob6 (s := q1 - p1 - (t - p1)) (t := t - p1) (by omega) (by omega)
  have m3 := mix_in (M := 100000000) (by omega) oa7 oa8 ob7 ob8 (s := q1 - p1 - (t - p1)) (t := t - p1) (by omega) (by omega)
  have m4 := mix_in (M := 100000) (by omega) (by omega) oa10 (by omega) ob10 (u := p5) (v := q5) (s := q1 - p1 - (t - p1)) (t := t - p1) (by omega) (by omega)
  have m4' := Int.mul_nonneg oa9 (show 0 ≤ q1 - p1 - (t - p1) by omega)
  have m4'' := Int.mul_nonneg ob9 (show 0 ≤ t - p1 by omega)
  have m5 := Int.mul_le_mul_of_nonneg_right hb1 (show 0 ≤ q1 - p1 by omega)
  have m6 := Int.mul_nonneg hb0 (show 0 ≤ q1 - p1 by omega)
  rw [hs] at m1 m2 m3 m4
  have hbend : 0 ≤ (prR bd ⟨p1, p2, p3, p4, p5⟩ ⟨q1, q2, q3, q4, q5⟩ t).bend ∧ (prR bd ⟨p1, p2, p3, p4, p5⟩ ⟨q1, q2, q3, q4, q5⟩ t).bend ≤ 100000 * (q1 - p1) := by
    unfold prR; simp only; split <;> omega
  have r1 := dn_in (d := q1 - p1) (off := (prR bd ⟨p1, p2, p3, p4, p5⟩ ⟨q1, q2, q3, q4, q5⟩ t).wrong + (prR bd ⟨p1, p2, p3, p4, p5⟩ ⟨q1, q2, q3, q4, q5⟩ t).bend) (by omega) m1.1 m1.2 (by simp only [prR] at hbend ⊢; omega) (by simp only [prR] at hbend ⊢; omega)
  have r2 := dn_in (d := q1 - p1) (off := (prR bd ⟨p1, p2, p3, p4, p5⟩ ⟨q1, q2, q3, q4, q5⟩ t).wrong + (prR bd ⟨p1, p2, p3, p4, p5⟩ ⟨q1, q2, q3, q4, q5⟩ t).bend) (by omega) m2.1 m2.2 (by simp only [prR] at hbend ⊢; omega) (by simp only [prR] at hbend ⊢; omega)
  have r3 := dn_in (d := q1 - p1) (off := (prR bd ⟨p1, p2, p3, p4, p5⟩ ⟨q1, q2, q3, q4, q5⟩ t).wrong + (prR bd ⟨p1, p2, p3, p4, p5⟩ ⟨q1, q2, q3, q4, q5⟩ t).bend) (by omega) m3.1 m3.2 (by simp only [prR] at hbend ⊢; omega) (by simp only [prR] at hbend ⊢; omega)
  exact ⟨r1.1, r1.2.1, r1.2.2, r2.1, r2.2.1, r2.2.2, r3.1, r3.2.1, r3.2.2⟩
end Go.Proofs.Ythpjhpfebjjanaa
