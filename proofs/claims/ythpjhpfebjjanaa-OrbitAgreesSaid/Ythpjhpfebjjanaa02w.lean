/- Chapter 2, a plain law: the program's and the reference's boxes and nominal places are the same. -/
import Derived.Test.Ythpjhpfebjjanaa02v
set_option linter.unusedSimpArgs false
set_option linter.unusedVariables false
namespace Go.Proofs.Ythpjhpfebjjanaa
open Go.RowKit Go.Ob

theorem idx_near {bd : Int} {l : List St} (hR : Right bd l) {t : Int} (h0 : frstT l ≤ t) (h1 : t ≤ lastT l) :
    (idx l t = kR l t ∧ (at_ l (kR l t)).t = t) ∨ (idx l t = kR l t + 1 ∧ (at_ l (kR l t)).t < t ∧ t ≤ (at_ l (kR l t + 1)).t) := by
  obtain ⟨hk1, hk2, hk3⟩ := kR_spec hR h0 h1
  by_cases h : (at_ l (kR l t)).t = t
  · left
    exact ⟨idx_of l t _ (by omega) (fun j hj => by have := hR.lt (kR l t) j hj (by omega); omega) (fun _ => by omega), h⟩
  · right
    exact ⟨idx_of l t _ (by omega) (fun j hj => by
      by_cases e : j = kR l t
      · subst e; omega
      · have := hR.lt (kR l t) j (by omega) (by omega); omega) (fun _ => hk3), by omega, hk3⟩

theorem scale_rd (x d : Int) (hd : 1 ≤ d) : rd (x * d) d = rd x 1 := by
  unfold rd
  rw [show 2 * (x * d) + d = (2 * x + 1) * d by rw [Int.add_mul, Int.one_mul, Int.mul_assoc], show (2 * d : Int) = 2 * 1 * d by omega]
  exact Int.mul_ediv_mul_of_pos_left _ _ (by omega)
theorem scale_dn (x e d : Int) (hd : 1 ≤ d) : dn (x * d) (e * d) d = dn x e 1 := by
  unfold dn
  rw [← Int.sub_mul, Int.mul_ediv_cancel _ (by omega), Int.ediv_one]
theorem scale_up (x e d : Int) (hd : 1 ≤ d) : up (x * d) (e * d) d = up x e 1 := by
  unfold up
  rw [← Int.add_mul, ← Int.neg_mul, Int.mul_ediv_cancel _ (by omega), Int.ediv_one]

theorem same_place {bd : Int} {l : List St} (hR : Right bd l) {t : Int} (h0 : frstT l ≤ t) (h1 : t ≤ lastT l) : rNom (ptR bd l t) = nom l t ∧ rBx (ptR bd l t) = bx bd l t := by
  obtain ⟨hk1, hk2, hk3⟩ := kR_spec hR h0 h1
  have hup := hR.up (kR l t) hk1
  unfold ptR nom bx
  rcases idx_near hR h0 h1 with ⟨hi, ht⟩ | ⟨hi, ht, ht2⟩
  · have hp : pt l t = ⟨(at_ l (kR l t)).x, (at_ l (kR l t)).y, (at_ l (kR l t)).z, (at_ l (kR l t)).e, 1, false⟩ := by unfold pt; rw [hi, if_pos ht]
    rw [hp]
    generalize at_ l (kR l t) = a at *
    generalize at_ l (kR l t + 1) = b at *
    have hg : t - a.t = 0 := by omega
    unfold prR rNom rBx nomP bxP offP
    simp only [hg, Int.mul_zero, Int.add_zero, Int.sub_zero, ne_eq, not_true_eq_false, false_and, if_false]
    have hd : 1 ≤ b.t - a.t := by omega
    simp [scale_rd _ _ hd, scale_dn _ _ _ hd, scale_up _ _ _ hd]
  · by_cases hf : (at_ l (kR l t + 1)).t = t
    · have hp : pt l t = ⟨(at_ l (kR l t + 1)).x, (at_ l (kR l t + 1)).y, (at_ l (kR l t + 1)).z, (at_ l (kR l t + 1)).e, 1, false⟩ := by unfold pt; rw [hi, if_pos hf]
      rw [hp]
      generalize at_ l (kR l t) = a at *
      generalize at_ l (kR l t + 1) = b at *
      have hg : t - a.t = b.t - a.t := by omega
      unfold prR rNom rBx nomP bxP offP
      simp only [hg, Int.sub_self, Int.mul_zero, Int.zero_add, ne_eq, not_true_eq_false, and_false, if_false, Int.add_zero]
      have hd : 1 ≤ b.t - a.t := by omega
      simp [scale_rd _ _ hd, scale_dn _ _ _ hd, scale_up _ _ _ hd]
    · have hp : pt l t = ptB (at_ l (kR l t)) (at_ l (kR l t + 1)) t := by rw [pt_bent (by rw [hi]; exact hf), hi]; rfl
      rw [hp]
      generalize at_ l (kR l t) = a at *
      generalize at_ l (kR l t + 1) = b at *
      unfold prR rNom rBx nomP bxP offP ptB
      have h3 : t - a.t ≠ 0 ∧ t - a.t ≠ b.t - a.t := ⟨by omega, by omega⟩
      simp [h3]
end Go.Proofs.Ythpjhpfebjjanaa
