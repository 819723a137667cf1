/- VelocityRange: fractions between bounds; the cells of a changed series. -/
import Derived.Test.Ytnocdnhhlppahaa08vq
set_option linter.unusedSimpArgs false
set_option linter.unusedVariables false
namespace Go.Proofs.Ytnocdnhhlppahaa
open Go Go.RowKit Go.Ab Go.Sr
set_option maxRecDepth 100000
theorem flatE_set (l : List Ep) (k : Nat) (q : Int) (hk : k < l.length) : (flatE l).set (k * 4 + 2) (.int .i64 q) = flatE (l.set k ⟨(ep l k).d, (ep l k).b, q, (ep l k).m⟩) := by
  refine List.ext_getElem? fun i => ?_
  by_cases hi : i < l.length * 4
  · have e0 : i / 4 * 4 + i % 4 = i := by omega
    have h1 := flatE_get l (i / 4) (i % 4) (by omega) (by omega)
    have h2 := flatE_get (l.set k ⟨(ep l k).d, (ep l k).b, q, (ep l k).m⟩) (i / 4) (i % 4) (by omega) (by rw [List.length_set]; omega)
    rw [e0] at h1 h2
    rw [h2, List.getElem?_set]
    have hg : ep (l.set k ⟨(ep l k).d, (ep l k).b, q, (ep l k).m⟩) (i / 4) = if k = i / 4 then ⟨(ep l k).d, (ep l k).b, q, (ep l k).m⟩ else ep l (i / 4) := by
      unfold ep
      rw [List.getD_eq_getElem?_getD, List.getElem?_set, if_pos hk]
      split
      · rfl
      · rw [List.getD_eq_getElem?_getD]
    rw [hg]
    have hj : i % 4 = 0 ∨ i % 4 = 1 ∨ i % 4 = 2 ∨ i % 4 = 3 := by omega
    by_cases hk4 : k = i / 4
    · rw [if_pos hk4]
      rw [← hk4] at h1
      rcases hj with h | h | h | h
      · rw [if_neg (by omega), h1, h]; rfl
      · rw [if_neg (by omega), h1, h]; rfl
      · rw [if_pos (by omega), if_pos (by rw [flatE_len]; omega), h]; rfl
      · rw [if_neg (by omega), h1, h]; rfl
    · rw [if_neg hk4, if_neg (by omega), h1]
  · rw [List.getElem?_eq_none (by rw [List.length_set, flatE_len]; omega), List.getElem?_eq_none (by rw [flatE_len, List.length_set]; omega)]
end Go.Proofs.Ytnocdnhhlppahaa
namespace Go.Proofs.Ytnocdnhhlppahaa
open Go Go.RowKit Go.Ab Go.Sr
theorem fr_lo {n d k c : Int} (hd : 0 < d) (h : k * d ≤ c * n) : k * frD n d ≤ c * frN n d := by
  have hp := gcd_pos (n := n) (show d ≠ 0 by omega)
  obtain ⟨x, hx⟩ : (Int.gcd n d : Int) ∣ n := Int.gcd_dvd_left ..
  obtain ⟨y, hy⟩ : (Int.gcd n d : Int) ∣ d := Int.gcd_dvd_right ..
  unfold frN frD frG
  rw [if_neg (by omega)]
  generalize (Int.gcd n d : Int) = g at *
  subst hx
  subst hy
  rw [Int.mul_tdiv_cancel_left _ (by omega), Int.mul_tdiv_cancel_left _ (by omega)]
  rw [Int.mul_left_comm k, Int.mul_left_comm c] at h
  exact Int.le_of_mul_le_mul_left h hp
theorem fr_hi {n d k c : Int} (hd : 0 < d) (h : c * n ≤ k * d) : c * frN n d ≤ k * frD n d := by
  have hp := gcd_pos (n := n) (show d ≠ 0 by omega)
  obtain ⟨x, hx⟩ : (Int.gcd n d : Int) ∣ n := Int.gcd_dvd_left ..
  obtain ⟨y, hy⟩ : (Int.gcd n d : Int) ∣ d := Int.gcd_dvd_right ..
  unfold frN frD frG
  rw [if_neg (by omega)]
  generalize (Int.gcd n d : Int) = g at *
  subst hx
  subst hy
  rw [Int.mul_tdiv_cancel_left _ (by omega), Int.mul_tdiv_cancel_left _ (by omega)]
  rw [Int.mul_left_comm k, Int.mul_left_comm c] at h
  exact Int.le_of_mul_le_mul_left h hp
end Go.Proofs.Ytnocdnhhlppahaa
