/- Chapter 2, plain: the nominal place lies in the box; the distance to a place in the box. -/
import Derived.Test.Ytaoennekamlfeaa02I
import Derived.Test.Ytaoennekamlfeaa02Spec7
set_option linter.unusedSimpArgs false
set_option linter.unusedVariables false
namespace Go.Proofs.Ytaoennekamlfeaa
open Go.RowKit Go.Ob

theorem rd_in {n off d : Int} (hd : 1 ≤ d) (ho : 0 ≤ off) : dn n off d ≤ rd n d ∧ rd n d ≤ up n off d := by
  unfold dn rd up
  have h1 := Int.mul_ediv_add_emod (n - off) d
  have h2 := Int.emod_nonneg (n - off) (show d ≠ 0 by omega)
  have h2' := Int.emod_lt_of_pos (n - off) (show 0 < d by omega)
  have h3 := Int.mul_ediv_add_emod (-(n + off)) d
  have h4 := Int.emod_nonneg (-(n + off)) (show d ≠ 0 by omega)
  have h4' := Int.emod_lt_of_pos (-(n + off)) (show 0 < d by omega)
  have h5 := Int.mul_ediv_add_emod (2 * n + d) (2 * d)
  have h6 := Int.emod_nonneg (2 * n + d) (show 2 * d ≠ 0 by omega)
  have h6' := Int.emod_lt_of_pos (2 * n + d) (show 0 < 2 * d by omega)
  generalize (n - off) / d = q1 at *
  generalize -(n + off) / d = q2 at *
  generalize (2 * n + d) / (2 * d) = q3 at *
  have e3 : 2 * d * q3 = 2 * (d * q3) := by rw [Int.mul_assoc]
  rw [e3] at h5
  constructor
  · rcases Int.lt_or_le q3 q1 with h | h
    · have := Int.mul_le_mul_of_nonneg_left (show q3 + 1 ≤ q1 by omega) (show 0 ≤ d by omega)
      rw [Int.mul_add] at this
      omega
    · exact h
  · rcases Int.lt_or_le (-q2) q3 with h | h
    · have := Int.mul_le_mul_of_nonneg_left (show -q2 + 1 ≤ q3 by omega) (show 0 ≤ d by omega)
      rw [Int.mul_add, Int.mul_neg] at this
      omega
    · exact h

theorem nom_in {bd : Int} {l : List St} (hR : Right bd l) {t : Int} (h0 : frstT l ≤ t) (h1 : t ≤ lastT l) :
    (rngB (nom l t).x (bx bd l t).l0 (bx bd l t).h0 = true ∧ rngB (nom l t).y (bx bd l t).l1 (bx bd l t).h1 = true) ∧ rngB (nom l t).z (bx bd l t).l2 (bx bd l t).h2 = true := by
  have hk := pt_ok hR h0 h1
  have ho := offP_bd hk hR.b0 hR.b1
  rw [rngB_true, rngB_true, rngB_true]
  exact ⟨⟨rd_in hk.o0 ho.2.2.1, rd_in hk.o0 ho.2.2.1⟩, rd_in hk.o0 ho.2.2.1⟩

theorem near_le {lo hi x p : Int} (h0 : lo ≤ p) (h1 : p ≤ hi) : near lo hi x * near lo hi x ≤ (p - x) * (p - x) ∧ (p - x) * (p - x) ≤ far lo hi x * far lo hi x := by
  rw [near_sq (by omega), far_sq (by omega)]
  unfold rLo rHi
  constructor
  · split
    · by_cases h : 0 ≤ p - x
      · exact Int.mul_nonneg h h
      · have := Int.mul_nonneg (show 0 ≤ x - p by omega) (show 0 ≤ x - p by omega); rw [sq_sym x p] at this; exact this
    · rename_i hw
      have hm := imn_spec ((x - lo) * (x - lo)) ((x - hi) * (x - hi))
      by_cases h : x < lo
      · have := sq_mono (a := lo - x) (b := p - x) (by omega) (by omega); rw [sq_sym lo x] at this; omega
      · have := sq_mono (a := x - hi) (b := x - p) (by omega) (by omega); rw [sq_sym x p] at this; omega
  · have hm := imx_spec ((x - lo) * (x - lo)) ((x - hi) * (x - hi))
    by_cases h : p ≤ x
    · have := sq_mono (a := x - p) (b := x - lo) (by omega) (by omega); rw [sq_sym x p] at this; omega
    · have := sq_mono (a := p - x) (b := hi - x) (by omega) (by omega); rw [sq_sym hi x] at this; omega

theorem sums_in {q : Bx} {p : P3} {x y z : Int} (h0 : q.l0 ≤ p.x ∧ p.x ≤ q.h0) (h1 : q.l1 ≤ p.y ∧ p.y ≤ q.h1) (h2 : q.l2 ≤ p.z ∧ p.z ≤ q.h2) : sqLo q x y z ≤ dsq p x y z ∧ dsq p x y z ≤ sqHi q x y z := by
  have a := near_le (x := x) h0.1 h0.2
  have b := near_le (x := y) h1.1 h1.2
  have c := near_le (x := z) h2.1 h2.2
  unfold sqLo sqHi dsq
  omega

theorem placeE_or (x y z : Int) : placeE x y z = 0 ∨ placeE x y z = 2 := by
  unfold placeE firstE firstE firstE firstE
  rcases bnd_or x (-100000000) 100000000 with a | a <;> rcases bnd_or y (-100000000) 100000000 with b | b <;> rcases bnd_or z (-100000000) 100000000 with c | c <;> simp [a, b, c]

end Go.Proofs.Ytaoennekamlfeaa
