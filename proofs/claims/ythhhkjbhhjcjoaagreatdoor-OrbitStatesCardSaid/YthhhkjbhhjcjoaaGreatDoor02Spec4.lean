/- Chapter 2 in plain Lean: boxes and nominal places; the bounds of what is computed. -/
import Derived.Test.YthhhkjbhhjcjoaaGreatDoor02Spec3
set_option linter.unusedSimpArgs false
set_option linter.unusedVariables false
namespace Go.Ob
structure Pt.Ok (p : Pt) : Prop where
  o0 : 1 ≤ p.over
  o1 : p.over ≤ 20000
  a00 : -2000000000000 ≤ p.a0
  a01 : p.a0 ≤ 2000000000000
  a10 : -2000000000000 ≤ p.a1
  a11 : p.a1 ≤ 2000000000000
  a20 : -2000000000000 ≤ p.a2
  a21 : p.a2 ≤ 2000000000000
  e0 : 0 ≤ p.err
  e1 : p.err ≤ 2000000000
theorem mix_bd {u v s t M : Int} (hM : 0 ≤ M) (hu0 : -M ≤ u) (hu1 : u ≤ M) (hv0 : -M ≤ v) (hv1 : v ≤ M) (hs : 0 ≤ s) (ht : 0 ≤ t) (hst : s + t ≤ 20000) :
    -(M * 20000) ≤ u * s + v * t ∧ u * s + v * t ≤ M * 20000 := by
  have h1 := Int.mul_le_mul_of_nonneg_right hu0 hs
  have h2 := Int.mul_le_mul_of_nonneg_right hu1 hs
  have h3 := Int.mul_le_mul_of_nonneg_right hv0 ht
  have h4 := Int.mul_le_mul_of_nonneg_right hv1 ht
  have h5 := Int.mul_le_mul_of_nonneg_left hst hM
  rw [Int.mul_add] at h5
  rw [Int.neg_mul] at h1 h3
  omega
theorem mix_pos {u v s t M : Int} (hu0 : 0 ≤ u) (hu1 : u ≤ M) (hv0 : 0 ≤ v) (hv1 : v ≤ M) (hs : 0 ≤ s) (ht : 0 ≤ t) (hst : s + t ≤ 20000) :
    0 ≤ u * s + v * t ∧ u * s + v * t ≤ M * 20000 := by
  have h1 := Int.mul_nonneg hu0 hs
  have h3 := Int.mul_nonneg hv0 ht
  exact ⟨by omega, (mix_bd (M := M) (by omega) (by omega) hu1 (by omega) hv1 hs ht hst).2⟩
theorem pt_ok {bd : Int} {l : List St} (h : Right bd l) {t : Int} (h0 : frstT l ≤ t) (h1 : t ≤ lastT l) : (pt l t).Ok := by
  have hk := idx_lt h h1
  have hb := h.ok _ hk
  by_cases hf : (at_ l (idx l t)).t = t
  · have : pt l t = ⟨(at_ l (idx l t)).x, (at_ l (idx l t)).y, (at_ l (idx l t)).z, (at_ l (idx l t)).e, 1, false⟩ := by unfold pt; rw [if_pos hf]
    rw [this]
    obtain ⟨h1, h2, h3, h4, h5, h6, h7, h8, h9, h10⟩ := hb
    exact ⟨by simp only; omega, by simp only; omega, by simp only; omega, by simp only; omega, by simp only; omega, by simp only; omega, by simp only; omega, by simp only; omega, h9, by simp only; omega⟩
  · have hkp := idx_pos h0 hk hf
    have hst := idx_stop l t hk
    have htk := idx_take l t (idx l t - 1) (by omega)
    have ha := h.ok (idx l t - 1) (by omega)
    have harc := h.arc (idx l t) hk
    have hmono := h.le 0 (idx l t - 1) (by omega) (by omega)
    rw [pt_bent hf]
    generalize at_ l (idx l t) = b at *
    generalize at_ l (idx l t - 1) = a at *
    obtain ⟨h1, h2, h3, h4, h5, h6, h7, h8, h9, h10⟩ := hb
    obtain ⟨g1, g2, g3, g4, g5, g6, g7, g8, g9, g10⟩ := ha
    have m1 := mix_bd (M := 100000000) (by omega) g3 g4 h3 h4 (s := b.t - a.t - (t - a.t)) (t := t - a.t) (by omega) (by omega) (by omega)
    have m2 := mix_bd (M := 100000000) (by omega) g5 g6 h5 h6 (s := b.t - a.t - (t - a.t)) (t := t - a.t) (by omega) (by omega) (by omega)
    have m3 := mix_bd (M := 100000000) (by omega) g7 g8 h7 h8 (s := b.t - a.t - (t - a.t)) (t := t - a.t) (by omega) (by omega) (by omega)
    have m4 := mix_pos g9 g10 h9 h10 (s := b.t - a.t - (t - a.t)) (t := t - a.t) (by omega) (by omega) (by omega)
    unfold ptB
    exact ⟨by simp only; omega, by simp only; omega, by simp only; omega, by simp only; omega, by simp only; omega, by simp only; omega, by simp only; omega, by simp only; omega, by simp only; omega, by simp only; omega⟩

def offP (bd : Int) (p : Pt) : Int := if p.bent then p.err + bd * p.over else p.err
theorem offP_bd {bd : Int} {p : Pt} (h : p.Ok) (h0 : 0 ≤ bd) (h1 : bd ≤ 100000) : 0 ≤ bd * p.over ∧ bd * p.over ≤ 2000000000 ∧ 0 ≤ offP bd p ∧ offP bd p ≤ 4000000000 := by
  have := h.o0
  have := h.o1
  have := h.e0
  have := h.e1
  have a := Int.mul_nonneg h0 (by omega : 0 ≤ p.over)
  have b := Int.mul_le_mul h1 h.o1 (by omega) (by omega : (0:Int) ≤ 100000)
  refine ⟨a, by omega, ?_, ?_⟩ <;> (unfold offP; split <;> omega)
/-- A box. -/
structure Bx where
  l0 : Int
  h0 : Int
  l1 : Int
  h1 : Int
  l2 : Int
  h2 : Int
  deriving DecidableEq
def dn (n off over : Int) : Int := (n - off) / over
def up (n off over : Int) : Int := -((-(n + off)) / over)
def bxP (bd : Int) (p : Pt) : Bx := ⟨dn p.a0 (offP bd p) p.over, up p.a0 (offP bd p) p.over, dn p.a1 (offP bd p) p.over, up p.a1 (offP bd p) p.over, dn p.a2 (offP bd p) p.over, up p.a2 (offP bd p) p.over⟩
def bx (bd : Int) (l : List St) (t : Int) : Bx := bxP bd (pt l t)
def rd (n over : Int) : Int := (2 * n + over) / (2 * over)
structure P3 where
  x : Int
  y : Int
  z : Int
  deriving DecidableEq
def nomP (p : Pt) : P3 := ⟨rd p.a0 p.over, rd p.a1 p.over, rd p.a2 p.over⟩
def nom (l : List St) (t : Int) : P3 := nomP (pt l t)
end Go.Ob
namespace Go.Ob
theorem sq_bd {n M : Int} (h0 : -M ≤ n) (h1 : n ≤ M) : 0 ≤ n * n ∧ n * n ≤ M * M := by
  by_cases h : 0 ≤ n
  · exact ⟨Int.mul_nonneg h h, Int.mul_le_mul h1 h1 h (by omega)⟩
  · have := Int.mul_le_mul (show -n ≤ M by omega) (show -n ≤ M by omega) (by omega) (by omega)
    rw [Int.neg_mul_neg] at this
    have h2 := Int.mul_nonneg (show 0 ≤ -n by omega) (show 0 ≤ -n by omega)
    rw [Int.neg_mul_neg] at h2
    exact ⟨h2, this⟩
def imx (x y : Int) : Int := if x < y then y else x
def imn (x y : Int) : Int := if y < x then y else x
theorem ite_imx (x y : Int) [Decidable (x < y)] : (if x < y then y else x) = imx x y := by unfold imx; by_cases h : x < y <;> simp [h]
theorem ite_imn (x y : Int) [Decidable (y < x)] : (if y < x then y else x) = imn x y := by unfold imn; by_cases h : y < x <;> simp [h]
theorem imx_spec (x y : Int) : x ≤ imx x y ∧ y ≤ imx x y ∧ (imx x y = x ∨ imx x y = y) := by unfold imx; split <;> omega
def near (lo hi x : Int) : Int := imx (imx (lo - x) (x - hi)) 0
def far (lo hi x : Int) : Int := imx (hi - x) (x - lo)
theorem near_bd {lo hi x : Int} (h0 : -300000000 ≤ lo) (h1 : lo ≤ hi) (h2 : hi ≤ 300000000) (hx0 : -200000000 ≤ x) (hx1 : x ≤ 200000000) : 0 ≤ near lo hi x * near lo hi x ∧ near lo hi x * near lo hi x ≤ 250000000000000000 := by
  have a := imx_spec (lo - x) (x - hi)
  have b := imx_spec (imx (lo - x) (x - hi)) 0
  have : 0 ≤ near lo hi x ∧ near lo hi x ≤ 500000000 := by unfold near; omega
  have := sq_bd (M := 500000000) (n := near lo hi x) (by omega) (by omega)
  omega
theorem far_bd {lo hi x : Int} (h0 : -300000000 ≤ lo) (h1 : lo ≤ hi) (h2 : hi ≤ 300000000) (hx0 : -200000000 ≤ x) (hx1 : x ≤ 200000000) : 0 ≤ far lo hi x * far lo hi x ∧ far lo hi x * far lo hi x ≤ 250000000000000000 := by
  have a := imx_spec (hi - x) (x - lo)
  have : 0 ≤ far lo hi x ∧ far lo hi x ≤ 500000000 := by unfold far; omega
  have := sq_bd (M := 500000000) (n := far lo hi x) (by omega) (by omega)
  omega
def sqLo (b : Bx) (x y z : Int) : Int := near b.l0 b.h0 x * near b.l0 b.h0 x + near b.l1 b.h1 y * near b.l1 b.h1 y + near b.l2 b.h2 z * near b.l2 b.h2 z
def sqHi (b : Bx) (x y z : Int) : Int := far b.l0 b.h0 x * far b.l0 b.h0 x + far b.l1 b.h1 y * far b.l1 b.h1 y + far b.l2 b.h2 z * far b.l2 b.h2 z
/-- A box whose numbers are small. -/
structure Bx.Ok (b : Bx) : Prop where
  l00 : -300000000 ≤ b.l0
  l01 : b.l0 ≤ b.h0
  h01 : b.h0 ≤ 300000000
  l10 : -300000000 ≤ b.l1
  l11 : b.l1 ≤ b.h1
  h11 : b.h1 ≤ 300000000
  l20 : -300000000 ≤ b.l2
  l21 : b.l2 ≤ b.h2
  h21 : b.h2 ≤ 300000000
end Go.Ob
namespace Go.Ob
/-- The sum of the first k of three numbers. -/
def ps (a b c : Int) (k : Nat) : Int := if k = 0 then 0 else if k = 1 then a else if k = 2 then a + b else a + b + c
theorem ps_0 (a b c : Int) : ps a b c 0 = 0 := rfl
theorem ps_1 (a b c : Int) : ps a b c 1 = a := rfl
theorem ps_2 (a b c : Int) : ps a b c 2 = a + b := rfl
theorem ps_3 (a b c : Int) : ps a b c 3 = a + b + c := rfl
end Go.Ob
