/- Least squares: the plain law. -/
import Derived.Test.Ytnocdnhhlppahaa08R
import Derived.Test.Ytnocdnhhlppahaa08sq
set_option linter.unusedSimpArgs false
set_option linter.unusedVariables false
namespace Go.Sr
theorem sm_cons (f : Rw → Int) (r : Rw) (R : List Rw) : sm f (r :: R) = f r + sm f R := by simp [sm]
theorem sm_add (f g : Rw → Int) : ∀ R : List Rw, sm (fun r => f r + g r) R = sm f R + sm g R
  | [] => by simp [sm]
  | r :: R => by
    rw [sm_cons, sm_cons, sm_cons, sm_add f g R]
    omega
theorem sm_mul (c : Int) (f : Rw → Int) : ∀ R : List Rw, sm (fun r => c * f r) R = c * sm f R
  | [] => by simp [sm]
  | r :: R => by
    rw [sm_cons, sm_cons, sm_mul c f R, Int.mul_add]
theorem sm_congr {f g : Rw → Int} (h : ∀ r, f r = g r) (R : List Rw) : sm f R = sm g R := by rw [show f = g from funext h]
theorem sq_nonneg (a : Int) : 0 ≤ a * a := by
  rcases Int.le_total 0 a with g | g
  · exact Int.mul_nonneg g g
  · have := Int.mul_nonneg (show 0 ≤ -a by omega) (show 0 ≤ -a by omega)
    rwa [Int.neg_mul_neg] at this
theorem sm_nonneg {f : Rw → Int} (h : ∀ r, 0 ≤ f r) : ∀ R : List Rw, 0 ≤ sm f R
  | [] => by simp [sm]
  | r :: R => by
    have := sm_nonneg h R
    have := h r
    rw [sm_cons]
    omega
theorem sm_ge {f : Rw → Int} (h : ∀ r, 0 ≤ f r) : ∀ (R : List Rw) (k : Nat), k < R.length → f (rw_ R k) ≤ sm f R
  | [], k, hk => by simp at hk
  | r :: R, 0, _ => by
    have := sm_nonneg h R
    rw [sm_cons]
    show f r ≤ _
    omega
  | r :: R, k + 1, hk => by
    have h1 := sm_ge h R k (by simpa using hk)
    have h2 := h r
    rw [sm_cons]
    show f (rw_ R k) ≤ _
    omega
/-- The normal equations hold: the residuals are orthogonal to the factors. -/
theorem rsd_x (D a b c : Int) : ∀ R : List Rw, sm (fun r => (r.v * D - (a * r.x + b * r.y + c * r.z)) * r.x) R = D * (nm R).p - (a * (nm R).xx + b * (nm R).xy + c * (nm R).xz)
  | [] => by simp [sm, nm]
  | r :: R => by
    have h := rsd_x D a b c R
    unfold nm at *
    simp only [sm_cons] at *
    rw [h]
    grind
theorem rsd_y (D a b c : Int) : ∀ R : List Rw, sm (fun r => (r.v * D - (a * r.x + b * r.y + c * r.z)) * r.y) R = D * (nm R).q - (a * (nm R).xy + b * (nm R).yy + c * (nm R).yz)
  | [] => by simp [sm, nm]
  | r :: R => by
    have h := rsd_y D a b c R
    unfold nm at *
    simp only [sm_cons] at *
    rw [h]
    grind
theorem rsd_z (D a b c : Int) : ∀ R : List Rw, sm (fun r => (r.v * D - (a * r.x + b * r.y + c * r.z)) * r.z) R = D * (nm R).r - (a * (nm R).xz + b * (nm R).yz + c * (nm R).zz)
  | [] => by simp [sm, nm]
  | r :: R => by
    have h := rsd_z D a b c R
    unfold nm at *
    simp only [sm_cons] at *
    rw [h]
    grind
theorem cramer (n : Nm) : n.det * n.p = fitF n 0 * n.xx + fitF n 1 * n.xy + fitF n 2 * n.xz ∧ n.det * n.q = fitF n 0 * n.xy + fitF n 1 * n.yy + fitF n 2 * n.yz ∧ n.det * n.r = fitF n 0 * n.xz + fitF n 1 * n.yz + fitF n 2 * n.zz := by
  obtain ⟨xx, xy, xz, yy, yz, zz, p, q, r⟩ := n
  have e0 : fitF ⟨xx, xy, xz, yy, yz, zz, p, q, r⟩ 0 = (yy * zz - yz * yz) * p + (yz * xz - zz * xy) * q + (xy * yz - xz * yy) * r := rfl
  have e1 : fitF ⟨xx, xy, xz, yy, yz, zz, p, q, r⟩ 1 = (yz * xz - xy * zz) * p + (zz * xx - xz * xz) * q + (xz * xy - xx * yz) * r := rfl
  have e2 : fitF ⟨xx, xy, xz, yy, yz, zz, p, q, r⟩ 2 = (xy * yz - yy * xz) * p + (xz * xy - yz * xx) * q + (xx * yy - xy * xy) * r := rfl
  have e3 : Nm.det ⟨xx, xy, xz, yy, yz, zz, p, q, r⟩ = xx * (yy * zz - yz * yz) - xy * (xy * zz - yz * xz) + xz * (xy * yz - yy * xz) := rfl
  rw [e0, e1, e2, e3]
  refine ⟨?_, ?_, ?_⟩ <;> (simp only; grind)
theorem orth (R : List Rw) : sm (fun r => rsd (nm R) r * r.x) R = 0 ∧ sm (fun r => rsd (nm R) r * r.y) R = 0 ∧ sm (fun r => rsd (nm R) r * r.z) R = 0 := by
  obtain ⟨h1, h2, h3⟩ := cramer (nm R)
  refine ⟨?_, ?_, ?_⟩
  · have := rsd_x (nm R).det (fitF (nm R) 0) (fitF (nm R) 1) (fitF (nm R) 2) R
    unfold rsd
    omega
  · have := rsd_y (nm R).det (fitF (nm R) 0) (fitF (nm R) 1) (fitF (nm R) 2) R
    unfold rsd
    omega
  · have := rsd_z (nm R).det (fitF (nm R) 0) (fitF (nm R) 1) (fitF (nm R) 2) R
    unfold rsd
    omega
/-- The squares of the residuals are no more than those of the values. -/
theorem rsd_sq (R : List Rw) : sm (fun r => rsd (nm R) r * rsd (nm R) r) R ≤ (nm R).det * (nm R).det * sm (fun r => r.v * r.v) R := by
  obtain ⟨h1, h2, h3⟩ := orth R
  have e1 : sm (fun r => rsd (nm R) r * rsd (nm R) r) R = (nm R).det * sm (fun r => rsd (nm R) r * r.v) R := by
    have : ∀ r, rsd (nm R) r * rsd (nm R) r = (nm R).det * (rsd (nm R) r * r.v) + ((-fitF (nm R) 0) * (rsd (nm R) r * r.x) + ((-fitF (nm R) 1) * (rsd (nm R) r * r.y) + (-fitF (nm R) 2) * (rsd (nm R) r * r.z))) := fun r => by
      conv => lhs; rhs; rw [rsd]
      grind
    rw [sm_congr this, sm_add, sm_add, sm_add, sm_mul, sm_mul, sm_mul, sm_mul, h1, h2, h3]
    simp
  have e2 : 0 ≤ sm (fun r => (r.v * (nm R).det - rsd (nm R) r) * (r.v * (nm R).det - rsd (nm R) r)) R := sm_nonneg (fun r => sq_nonneg _) R
  have e3 : ∀ r : Rw, (r.v * (nm R).det - rsd (nm R) r) * (r.v * (nm R).det - rsd (nm R) r) = (nm R).det * (nm R).det * (r.v * r.v) + ((-2 * (nm R).det) * (rsd (nm R) r * r.v) + rsd (nm R) r * rsd (nm R) r) := fun r => by grind
  rw [sm_congr e3, sm_add, sm_add, sm_mul, sm_mul] at e2
  generalize sm (fun r => rsd (nm R) r * r.v) R = A at *
  generalize (nm R).det = D at *
  have : -2 * D * A = -2 * (D * A) := by grind
  omega
theorem sq_lt {a d c : Int} (hd : 0 ≤ d) (hc : 0 ≤ c) (h : a * a ≤ (c * c) * (d * d)) : -(c * d) ≤ a ∧ a ≤ c * d := by
  have hcd := Int.mul_nonneg hc hd
  have e : (c * c) * (d * d) = (c * d) * (c * d) := by grind
  rw [e] at h
  constructor
  · apply Classical.byContradiction
    intro hn
    have h1 : (c * d) + 1 ≤ -a := by omega
    have h2 := Int.mul_le_mul h1 h1 (by omega) (by omega)
    rw [Int.neg_mul_neg] at h2
    have : (c * d + 1) * (c * d + 1) = (c * d) * (c * d) + (2 * (c * d) + 1) := by grind
    omega
  · apply Classical.byContradiction
    intro hn
    have h1 : (c * d) + 1 ≤ a := by omega
    have h2 := Int.mul_le_mul h1 h1 (by omega) (by omega)
    have : (c * d + 1) * (c * d + 1) = (c * d) * (c * d) + (2 * (c * d) + 1) := by grind
    omega
theorem rsd_small {R : List Rw} (hl : R.length ≤ 8) (hv : ∀ r ∈ R, -200 ≤ r.v ∧ r.v ≤ 200) (hd : 0 ≤ (nm R).det) (k : Nat) (hk : k < R.length) : -(566 * (nm R).det) ≤ rsd (nm R) (rw_ R k) ∧ rsd (nm R) (rw_ R k) ≤ 566 * (nm R).det := by
  have h1 := rsd_sq R
  have h2 := sm_ge (f := fun r => rsd (nm R) r * rsd (nm R) r) (fun r => sq_nonneg _) R k hk
  have h3 := smb (fun r => r.v * r.v) 40000 8 320000 (by decide) R (fun r hr => mulc (A := 200) (B := 200) 40000 (hv r hr) (hv r hr) (by decide)) (by omega) (by decide)
  have h4 := Int.mul_le_mul_of_nonneg_left h3.2 (sq_nonneg (nm R).det)
  refine sq_lt hd (by decide) ?_
  have h5 := sq_nonneg (nm R).det

  generalize (nm R).det * (nm R).det = DD at *
  omega
open Go.Proofs.Ytnocdnhhlppahaa in
theorem sqN_sm (x y z : Int) (R : List Rw) : ∀ k, k ≤ R.length → sqN x y z R k = sm (fun r => dif x y z r * dif x y z r) (R.take k)
  | 0, _ => by simp [sqN, sm]
  | k + 1, hk => by
    have h := sqN_sm x y z R k (by omega)
    rw [sm_take _ R k (by omega)]
    unfold sqN
    rw [h]
    rfl
open Go.Proofs.Ytnocdnhhlppahaa in
/-- Whole parameters of the fit have the least sum of squares. -/
theorem least {R : List Rw} {x y z : Int} (hd : (nm R).det ≠ 0) (h0 : x * (nm R).det = fitF (nm R) 0) (h1 : y * (nm R).det = fitF (nm R) 1) (h2 : z * (nm R).det = fitF (nm R) 2) (a b c : Int) : sqN x y z R R.length ≤ sqN a b c R R.length := by
  rw [sqN_sm _ _ _ _ _ (Nat.le_refl _), sqN_sm _ _ _ _ _ (Nat.le_refl _), List.take_length]
  obtain ⟨o1, o2, o3⟩ := orth R
  have er : ∀ r, rsd (nm R) r = (nm R).det * dif x y z r := fun r => by
    unfold rsd dif
    rw [← h0, ← h1, ← h2]
    grind
  have cut : ∀ f : Rw → Int, sm (fun r => rsd (nm R) r * f r) R = 0 → sm (fun r => dif x y z r * f r) R = 0 := fun f h => by
    have e : ∀ r, rsd (nm R) r * f r = (nm R).det * (dif x y z r * f r) := fun r => by rw [er]; grind
    rw [sm_congr e, sm_mul] at h
    exact (Int.mul_eq_zero.1 h).resolve_left hd
  have c1 := cut (fun r => r.x) o1
  have c2 := cut (fun r => r.y) o2
  have c3 := cut (fun r => r.z) o3
  have e : ∀ r, dif a b c r * dif a b c r = dif x y z r * dif x y z r + (2 * (x - a)) * (dif x y z r * r.x) + (2 * (y - b)) * (dif x y z r * r.y) + (2 * (z - c)) * (dif x y z r * r.z) + ((x - a) * r.x + (y - b) * r.y + (z - c) * r.z) * ((x - a) * r.x + (y - b) * r.y + (z - c) * r.z) := fun r => by
    unfold dif
    grind
  have hn := sm_nonneg (f := fun r => ((x - a) * r.x + (y - b) * r.y + (z - c) * r.z) * ((x - a) * r.x + (y - b) * r.y + (z - c) * r.z)) (fun r => sq_nonneg _) R
  rw [sm_congr e, sm_add, sm_add, sm_add, sm_add, sm_mul, sm_mul, sm_mul, c1, c2, c3]
  simp only [Int.mul_zero, Int.add_zero]
  omega
end Go.Sr
