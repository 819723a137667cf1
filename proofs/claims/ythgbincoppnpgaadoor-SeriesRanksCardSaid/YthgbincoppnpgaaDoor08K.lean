/- Chapter 8 in plain Lean: the rank of the normal equations is the rank of the rows. -/
import Derived.Test.YthgbincoppnpgaaDoor08N
set_option linter.unusedSimpArgs false
set_option linter.unusedVariables false
namespace Go.Sr
/-- The sums of the rows' products: what the rank asks. -/
structure Sx where
  xx : Int
  xy : Int
  xz : Int
  yy : Int
  yz : Int
  zz : Int
def sx (l : List V3) : Sx := ⟨smv (fun r => r.1 * r.1) l, smv (fun r => r.1 * r.2.1) l, smv (fun r => r.1 * r.2.2) l, smv (fun r => r.2.1 * r.2.1) l, smv (fun r => r.2.1 * r.2.2) l, smv (fun r => r.2.2 * r.2.2) l⟩
def Sx.det (n : Sx) : Int := n.xx * (n.yy * n.zz - n.yz * n.yz) - n.xy * (n.xy * n.zz - n.yz * n.xz) + n.xz * (n.xy * n.yz - n.yy * n.xz)
def Sx.mz (n : Sx) : Int := n.xx * n.yy - n.xy * n.xy
def Sx.my (n : Sx) : Int := n.xx * n.zz - n.xz * n.xz
def Sx.mx (n : Sx) : Int := n.yy * n.zz - n.yz * n.yz
/-- The rank of all parameters. -/
def rkA (n : Sx) : Int := if n.det ≠ 0 then 3 else if n.mz ≠ 0 ∨ n.my ≠ 0 ∨ n.mx ≠ 0 then 2 else if n.xx ≠ 0 ∨ n.yy ≠ 0 ∨ n.zz ≠ 0 then 1 else 0
/-- The rank of two parameters. -/
def rkT (a b m : Int) : Int := if m ≠ 0 then 2 else if a ≠ 0 ∨ b ≠ 0 then 1 else 0
structure Psd (n : Sx) : Prop where
  xx : 0 ≤ n.xx
  yy : 0 ≤ n.yy
  zz : 0 ≤ n.zz
  mz : 0 ≤ n.mz
  my : 0 ≤ n.my
  mx : 0 ≤ n.mx
  det : 0 ≤ n.det
theorem dt_x (a : V3) : dt a (1, 0, 0) = a.1 := by simp [dt]
theorem dt_y (a : V3) : dt a (0, 1, 0) = a.2.1 := by simp [dt]
theorem dt_z (a : V3) : dt a (0, 0, 1) = a.2.2 := by simp [dt]
theorem adj_x (l : List V3) : adj l (1, 0, 0) = (sx l).mx := by simp only [adj, sx, Sx.mx]; grind
theorem adj_y (l : List V3) : adj l (0, 1, 0) = (sx l).my := by simp only [adj, sx, Sx.my]; grind
theorem adj_z (l : List V3) : adj l (0, 0, 1) = (sx l).mz := by simp only [adj, sx, Sx.mz]; grind
theorem dN_sx (l : List V3) : dN l = (sx l).det := rfl
theorem smv_sq (f : V3 → Int) (l : List V3) : 0 ≤ smv (fun r => f r * f r) l := sum_nonneg (fun r => f r * f r) (fun r => sqr_nonneg (f r)) l
theorem psd (l : List V3) : Psd (sx l) :=
  ⟨smv_sq (fun r => r.1) l, smv_sq (fun r => r.2.1) l, smv_sq (fun r => r.2.2) l, by rw [← adj_z, adj_prs]; exact prs_nonneg _ l, by rw [← adj_y, adj_prs]; exact prs_nonneg _ l, by rw [← adj_x, adj_prs]; exact prs_nonneg _ l, by rw [← dN_sx]; exact dN_nonneg l⟩
theorem E3_det (l : List V3) : E3 l l.length ↔ (sx l).det ≠ 0 := by rw [← trp_ne, ← dN_trp, dN_sx]
theorem v3_ne (a : V3) : a ≠ (0, 0, 0) ↔ a.1 ≠ 0 ∨ a.2.1 ≠ 0 ∨ a.2.2 ≠ 0 := by
  obtain ⟨x, y, z⟩ := a
  simp only [ne_eq, Prod.mk.injEq]
  omega
theorem E2_m (l : List V3) : E2 l l.length ↔ (sx l).mz ≠ 0 ∨ (sx l).my ≠ 0 ∨ (sx l).mx ≠ 0 := by
  rw [← adj_x, ← adj_y, ← adj_z, adj_prs, adj_prs, adj_prs, prs_ne, prs_ne, prs_ne]
  unfold E2
  constructor
  · rintro ⟨j, k, h1, h2, h3⟩
    rcases (v3_ne _).1 h3 with h | h | h
    · exact .inr (.inr ⟨j, k, h1, h2, by rw [dt_x]; exact h⟩)
    · exact .inr (.inl ⟨j, k, h1, h2, by rw [dt_y]; exact h⟩)
    · exact .inl ⟨j, k, h1, h2, by rw [dt_z]; exact h⟩
  · rintro (⟨j, k, h1, h2, h3⟩ | ⟨j, k, h1, h2, h3⟩ | ⟨j, k, h1, h2, h3⟩)
    · exact ⟨j, k, h1, h2, (v3_ne _).2 (.inr (.inr (by rwa [dt_z] at h3)))⟩
    · exact ⟨j, k, h1, h2, (v3_ne _).2 (.inr (.inl (by rwa [dt_y] at h3)))⟩
    · exact ⟨j, k, h1, h2, (v3_ne _).2 (.inl (by rwa [dt_x] at h3))⟩
theorem sq_ne (f : V3 → Int) (l : List V3) : smv (fun r => f r * f r) l ≠ 0 ↔ ∃ j, j < l.length ∧ f (gv l j) ≠ 0 := by
  have h := sum_zero (fun r => f r * f r) (fun r => sqr_nonneg (f r)) l
  constructor
  · intro hn
    apply Classical.byContradiction
    intro hx
    refine hn (h.2 fun a ha => ?_)
    obtain ⟨k, hk, rfl⟩ := mem_gv ha
    apply Classical.byContradiction
    intro h0
    exact hx ⟨k, hk, fun e => h0 (by rw [e]; rfl)⟩
  · rintro ⟨j, hj, hf⟩ hz
    exact hf (sq_zero.1 (h.1 hz _ (gv_mem hj)))
theorem E1_d (l : List V3) : E1 l l.length ↔ (sx l).xx ≠ 0 ∨ (sx l).yy ≠ 0 ∨ (sx l).zz ≠ 0 := by
  show _ ↔ smv (fun r => r.1 * r.1) l ≠ 0 ∨ smv (fun r => r.2.1 * r.2.1) l ≠ 0 ∨ smv (fun r => r.2.2 * r.2.2) l ≠ 0
  rw [sq_ne (fun r => r.1), sq_ne (fun r => r.2.1), sq_ne (fun r => r.2.2)]
  unfold E1
  constructor
  · rintro ⟨j, hj, h⟩
    rcases (v3_ne _).1 h with h | h | h
    · exact .inl ⟨j, hj, h⟩
    · exact .inr (.inl ⟨j, hj, h⟩)
    · exact .inr (.inr ⟨j, hj, h⟩)
  · rintro (⟨j, hj, h⟩ | ⟨j, hj, h⟩ | ⟨j, hj, h⟩)
    · exact ⟨j, hj, (v3_ne _).2 (.inl h)⟩
    · exact ⟨j, hj, (v3_ne _).2 (.inr (.inl h))⟩
    · exact ⟨j, hj, (v3_ne _).2 (.inr (.inr h))⟩
/-- The rank of rows, by their sums. -/
theorem rkF_sx (l : List V3) : rkF l l.length = rkA (sx l) := by
  unfold rkF rkA
  by_cases h3 : (sx l).det ≠ 0
  · rw [if_pos ((E3_det l).2 h3), if_pos h3]
  · rw [if_neg fun h => h3 ((E3_det l).1 h), if_neg h3]
    by_cases h2 : (sx l).mz ≠ 0 ∨ (sx l).my ≠ 0 ∨ (sx l).mx ≠ 0
    · rw [if_pos ((E2_m l).2 h2), if_pos h2]
    · rw [if_neg fun h => h2 ((E2_m l).1 h), if_neg h2]
      by_cases h1 : (sx l).xx ≠ 0 ∨ (sx l).yy ≠ 0 ∨ (sx l).zz ≠ 0
      · rw [if_pos ((E1_d l).2 h1), if_pos h1]
      · rw [if_neg fun h => h1 ((E1_d l).1 h), if_neg h1]
theorem sx_snoc (l : List V3) (e : V3) : sx (l ++ [e]) = ⟨(sx l).xx + e.1 * e.1, (sx l).xy + e.1 * e.2.1, (sx l).xz + e.1 * e.2.2, (sx l).yy + e.2.1 * e.2.1, (sx l).yz + e.2.1 * e.2.2, (sx l).zz + e.2.2 * e.2.2⟩ := by
  simp [sx, smv]
theorem mul_zero_of {a b : Int} (ha : 0 ≤ a) (hb : 0 ≤ b) (h : 0 ≤ -(a * b)) : a = 0 ∨ b = 0 := by
  have := Int.mul_nonneg ha hb
  exact Int.mul_eq_zero.1 (by omega)
theorem neg_sq {a : Int} (h : 0 ≤ -(a * a)) : a = 0 := by
  have := sqr_nonneg a
  exact sq_zero.1 (by omega)
section
variable {n : Sx} (h : Psd n)
include h
theorem Psd.x0 (hx : n.xx = 0) : n.xy = 0 ∧ n.xz = 0 := by
  have h1 := h.mz
  have h2 := h.my
  unfold Sx.mz at h1
  unfold Sx.my at h2
  rw [hx] at h1 h2
  exact ⟨neg_sq (by omega), neg_sq (by omega)⟩
theorem Psd.y0 (hx : n.yy = 0) : n.xy = 0 ∧ n.yz = 0 := by
  have h1 := h.mz
  have h2 := h.mx
  unfold Sx.mz at h1
  unfold Sx.mx at h2
  rw [hx] at h1 h2
  exact ⟨neg_sq (by omega), neg_sq (by omega)⟩
theorem Psd.z0 (hx : n.zz = 0) : n.xz = 0 ∧ n.yz = 0 := by
  have h1 := h.my
  have h2 := h.mx
  unfold Sx.my at h1
  unfold Sx.mx at h2
  rw [hx] at h1 h2
  exact ⟨neg_sq (by omega), neg_sq (by omega)⟩
/-- Without one of the products of two there is no determinant. -/
theorem Psd.mx_det (h0 : n.mx = 0) : n.det = 0 := by
  have e : n.mx * n.my - (n.zz * n.xy - n.yz * n.xz) * (n.zz * n.xy - n.yz * n.xz) = n.zz * n.det := by simp only [Sx.mx, Sx.my, Sx.det]; grind
  rw [h0] at e
  have h1 := sqr_nonneg (n.zz * n.xy - n.yz * n.xz)
  rcases mul_zero_of h.zz h.det (by omega) with hz | hz
  · obtain ⟨e1, e2⟩ := h.z0 hz
    unfold Sx.det
    rw [hz, e1, e2]
    simp
  · exact hz
theorem Psd.my_det (h0 : n.my = 0) : n.det = 0 := by
  have e : n.my * n.mx - (n.zz * n.xy - n.yz * n.xz) * (n.zz * n.xy - n.yz * n.xz) = n.zz * n.det := by simp only [Sx.mx, Sx.my, Sx.det]; grind
  rw [h0] at e
  have h1 := sqr_nonneg (n.zz * n.xy - n.yz * n.xz)
  rcases mul_zero_of h.zz h.det (by omega) with hz | hz
  · obtain ⟨e1, e2⟩ := h.z0 hz
    unfold Sx.det
    rw [hz, e1, e2]
    simp
  · exact hz
theorem Psd.mz_det (h0 : n.mz = 0) : n.det = 0 := by
  have e : n.mz * n.my - (n.xx * n.yz - n.xy * n.xz) * (n.xx * n.yz - n.xy * n.xz) = n.xx * n.det := by simp only [Sx.mz, Sx.my, Sx.det]; grind
  rw [h0] at e
  have h1 := sqr_nonneg (n.xx * n.yz - n.xy * n.xz)
  rcases mul_zero_of h.xx h.det (by omega) with hz | hz
  · obtain ⟨e1, e2⟩ := h.x0 hz
    unfold Sx.det
    rw [hz, e1, e2]
    simp
  · exact hz
theorem Psd.d_mz (hx : n.xx = 0 ∨ n.yy = 0) : n.mz = 0 := by
  unfold Sx.mz
  rcases hx with hx | hx
  · rw [hx, (h.x0 hx).1]; simp
  · rw [hx, (h.y0 hx).1]; simp
theorem Psd.d_my (hx : n.xx = 0 ∨ n.zz = 0) : n.my = 0 := by
  unfold Sx.my
  rcases hx with hx | hx
  · rw [hx, (h.x0 hx).2]; simp
  · rw [hx, (h.z0 hx).1]; simp
theorem Psd.d_mx (hx : n.yy = 0 ∨ n.zz = 0) : n.mx = 0 := by
  unfold Sx.mx
  rcases hx with hx | hx
  · rw [hx, (h.y0 hx).2]; simp
  · rw [hx, (h.z0 hx).2]; simp
theorem rkA_x : rkA ⟨n.xx + 1, n.xy, n.xz, n.yy, n.yz, n.zz⟩ = rkT n.yy n.zz n.mx + 1 := by
  have e1 : Sx.det ⟨n.xx + 1, n.xy, n.xz, n.yy, n.yz, n.zz⟩ = n.det + n.mx := by simp only [Sx.det, Sx.mx]; grind
  have e2 : Sx.mz ⟨n.xx + 1, n.xy, n.xz, n.yy, n.yz, n.zz⟩ = n.mz + n.yy := by simp only [Sx.mz]; grind
  have e3 : Sx.my ⟨n.xx + 1, n.xy, n.xz, n.yy, n.yz, n.zz⟩ = n.my + n.zz := by simp only [Sx.my]; grind
  have e4 : Sx.mx ⟨n.xx + 1, n.xy, n.xz, n.yy, n.yz, n.zz⟩ = n.mx := rfl
  have p1 := h.xx
  have p2 := h.yy
  have p3 := h.zz
  have p4 := h.mx
  have p5 := h.my
  have p6 := h.mz
  have p7 := h.det
  have k1 : n.mx = 0 → n.det = 0 := h.mx_det
  have k2 : n.yy = 0 → n.mz = 0 := fun hy => h.d_mz (.inr hy)
  have k3 : n.zz = 0 → n.my = 0 := fun hy => h.d_my (.inr hy)
  unfold rkA rkT
  rw [e1, e2, e3, e4]
  dsimp only
  (repeat' split) <;> omega
theorem rkA_y : rkA ⟨n.xx, n.xy, n.xz, n.yy + 1, n.yz, n.zz⟩ = rkT n.zz n.xx n.my + 1 := by
  have e1 : Sx.det ⟨n.xx, n.xy, n.xz, n.yy + 1, n.yz, n.zz⟩ = n.det + n.my := by simp only [Sx.det, Sx.my]; grind
  have e2 : Sx.mz ⟨n.xx, n.xy, n.xz, n.yy + 1, n.yz, n.zz⟩ = n.mz + n.xx := by simp only [Sx.mz]; grind
  have e3 : Sx.mx ⟨n.xx, n.xy, n.xz, n.yy + 1, n.yz, n.zz⟩ = n.mx + n.zz := by simp only [Sx.mx]; grind
  have e4 : Sx.my ⟨n.xx, n.xy, n.xz, n.yy + 1, n.yz, n.zz⟩ = n.my := rfl
  have p1 := h.xx
  have p2 := h.yy
  have p3 := h.zz
  have p4 := h.mx
  have p5 := h.my
  have p6 := h.mz
  have p7 := h.det
  have k1 : n.my = 0 → n.det = 0 := h.my_det
  have k2 : n.xx = 0 → n.mz = 0 := fun hy => h.d_mz (.inl hy)
  have k3 : n.zz = 0 → n.mx = 0 := fun hy => h.d_mx (.inr hy)
  unfold rkA rkT
  rw [e1, e2, e3, e4]
  dsimp only
  (repeat' split) <;> omega
theorem rkA_z : rkA ⟨n.xx, n.xy, n.xz, n.yy, n.yz, n.zz + 1⟩ = rkT n.xx n.yy n.mz + 1 := by
  have e1 : Sx.det ⟨n.xx, n.xy, n.xz, n.yy, n.yz, n.zz + 1⟩ = n.det + n.mz := by simp only [Sx.det, Sx.mz]; grind
  have e2 : Sx.my ⟨n.xx, n.xy, n.xz, n.yy, n.yz, n.zz + 1⟩ = n.my + n.xx := by simp only [Sx.my]; grind
  have e3 : Sx.mx ⟨n.xx, n.xy, n.xz, n.yy, n.yz, n.zz + 1⟩ = n.mx + n.yy := by simp only [Sx.mx]; grind
  have e4 : Sx.mz ⟨n.xx, n.xy, n.xz, n.yy, n.yz, n.zz + 1⟩ = n.mz := rfl
  have p1 := h.xx
  have p2 := h.yy
  have p3 := h.zz
  have p4 := h.mx
  have p5 := h.my
  have p6 := h.mz
  have p7 := h.det
  have k1 : n.mz = 0 → n.det = 0 := h.mz_det
  have k2 : n.xx = 0 → n.my = 0 := fun hy => h.d_my (.inl hy)
  have k3 : n.yy = 0 → n.mx = 0 := fun hy => h.d_mx (.inl hy)
  unfold rkA rkT
  rw [e1, e2, e3, e4]
  dsimp only
  (repeat' split) <;> omega
end
/-- Two parameters have no greater rank than all. -/
theorem rkT_le (n : Sx) : rkT n.yy n.zz n.mx ≤ rkA n ∧ rkT n.zz n.xx n.my ≤ rkA n ∧ rkT n.xx n.yy n.mz ≤ rkA n := by
  unfold rkT rkA
  refine ⟨?_, ?_, ?_⟩ <;> (repeat' split) <;> omega
/-- A parameter is open just if its unit row adds to the rank. -/
theorem open_iff (l : List V3) : (rkT (sx l).yy (sx l).zz (sx l).mx = rkA (sx l) ↔ rkF l l.length < rkF (l ++ [(1, 0, 0)]) (l ++ [(1, 0, 0)]).length) ∧ (rkT (sx l).zz (sx l).xx (sx l).my = rkA (sx l) ↔ rkF l l.length < rkF (l ++ [(0, 1, 0)]) (l ++ [(0, 1, 0)]).length) ∧
    (rkT (sx l).xx (sx l).yy (sx l).mz = rkA (sx l) ↔ rkF l l.length < rkF (l ++ [(0, 0, 1)]) (l ++ [(0, 0, 1)]).length) := by
  have h := psd l
  obtain ⟨a, b, c⟩ := rkT_le (sx l)
  rw [rkF_sx, rkF_sx, rkF_sx, rkF_sx, sx_snoc, sx_snoc, sx_snoc]
  have e1 := rkA_x h
  have e2 := rkA_y h
  have e3 := rkA_z h
  refine ⟨?_, ?_, ?_⟩
  · show _ ↔ rkA _ < rkA ⟨(sx l).xx + 1 * 1, (sx l).xy + 1 * 0, (sx l).xz + 1 * 0, (sx l).yy + 0 * 0, (sx l).yz + 0 * 0, (sx l).zz + 0 * 0⟩
    simp only [Int.mul_one, Int.mul_zero, Int.add_zero]
    rw [e1]
    omega
  · show _ ↔ rkA _ < rkA ⟨(sx l).xx + 0 * 0, (sx l).xy + 0 * 1, (sx l).xz + 0 * 0, (sx l).yy + 1 * 1, (sx l).yz + 1 * 0, (sx l).zz + 0 * 0⟩
    simp only [Int.mul_one, Int.mul_zero, Int.zero_mul, Int.add_zero]
    rw [e2]
    omega
  · show _ ↔ rkA _ < rkA ⟨(sx l).xx + 0 * 0, (sx l).xy + 0 * 0, (sx l).xz + 0 * 1, (sx l).yy + 0 * 0, (sx l).yz + 0 * 1, (sx l).zz + 1 * 1⟩
    simp only [Int.mul_one, Int.mul_zero, Int.zero_mul, Int.add_zero]
    rw [e3]
    omega
end Go.Sr
