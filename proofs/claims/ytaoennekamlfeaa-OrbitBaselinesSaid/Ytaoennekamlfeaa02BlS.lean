/- Chapter 2 in plain Lean: the numbers of a baseline. -/
import Derived.Test.Ytaoennekamlfeaa02Spec5
set_option linter.unusedSimpArgs false
set_option linter.unusedVariables false
namespace Go.Ob

theorem mulI_bd {a b A B : Int} (ha : -A ≤ a ∧ a ≤ A) (hb : -B ≤ b ∧ b ≤ B) : -(A * B) ≤ a * b ∧ a * b ≤ A * B := by
  have h1 : a.natAbs * b.natAbs ≤ A.natAbs * B.natAbs := Nat.mul_le_mul (by omega) (by omega)
  have h2 : (a * b).natAbs ≤ (A * B).natAbs := by rw [Int.natAbs_mul, Int.natAbs_mul]; exact h1
  have h3 : 0 ≤ A * B := Int.mul_nonneg (by omega) (by omega)
  omega
theorem sqI_nn (g : Int) : 0 ≤ g * g := by rw [← Int.natAbs_mul_self]; exact Int.natCast_nonneg _
theorem sq_bd7 {g : Int} (h : -10000000 ≤ g ∧ g ≤ 10000000) : 0 ≤ g * g ∧ g * g ≤ 100000000000000 := by
  have := mulI_bd h h
  have h0 := sqI_nn g
  omega

def aLo (n low high : Int) : Int := imn (n / low) (n / high)
def aHi (n low high : Int) : Int := imx (-(-n / low)) (-(-n / high))
def gE (n low high : Int) : Int := imx (aHi n low high) (-aLo n low high)
def lE (n low high : Int) : Int := imx (imx (aLo n low high) (-aHi n low high)) 0
def cLo (all n low high : Int) : Int := rt (imx 0 (all - gE n low high * gE n low high))
def cHi (all n low high : Int) : Int := rtUp (imx 0 (all - lE n low high * lE n low high))

/-- What is known of the numbers. -/
structure Bs (d1 d2 d3 s1 s2 s3 n sq all low high : Int) : Prop where
  low1 : 1 ≤ low
  lowhigh : low ≤ high
  highb : high ≤ 1000000000
  nb : -1000000000000000 ≤ n ∧ n ≤ 1000000000000000
  sqb : 0 ≤ sq ∧ sq ≤ 200000000000000000
  allb : 0 ≤ all ∧ all ≤ 3000000000000
  along : -10000000 ≤ aLo n low high ∧ aLo n low high ≤ aHi n low high ∧ aHi n low high ≤ 10000000

theorem abs_root {s sq : Int} (h0 : 0 ≤ sq) (h : s * s ≤ sq) : -rt sq ≤ s ∧ s ≤ rt sq := by
  obtain ⟨r0, r1, r2⟩ := rt_spec h0
  have key : s.natAbs < (rt sq + 1).natAbs := by
    refine Nat.lt_of_not_le fun hle => ?_
    have h1 := Nat.mul_le_mul hle hle
    have h2 : ((rt sq + 1).natAbs * (rt sq + 1).natAbs : Int) = (rt sq + 1) * (rt sq + 1) := by
      have := Int.natAbs_mul_self (a := rt sq + 1)
      exact_mod_cast this
    have h3 : (s.natAbs * s.natAbs : Int) = s * s := by
      have := Int.natAbs_mul_self (a := s)
      exact_mod_cast this
    have h4 : ((rt sq + 1).natAbs * (rt sq + 1).natAbs : Int) ≤ s.natAbs * s.natAbs := by exact_mod_cast h1
    omega
  omega

theorem divI_bd {n k A : Int} (hk : 1 ≤ k) (h1 : -(A * k) ≤ n) (h2 : n ≤ A * k) : -A ≤ n / k ∧ n / k ≤ A := by
  refine ⟨Int.le_ediv_of_mul_le (by omega) (by rw [Int.neg_mul]; exact h1), ?_⟩
  have := Int.ediv_le_ediv (c := k) (by omega) h2
  rwa [Int.mul_ediv_cancel _ (by omega)] at this
theorem floorI_ceil {n k : Int} (hk : 1 ≤ k) : n / k ≤ -(-n / k) := by
  have h1 := Int.mul_ediv_add_emod n k
  have h2 := Int.mul_ediv_add_emod (-n) k
  have h3 := Int.emod_nonneg n (show k ≠ 0 by omega)
  have h4 := Int.emod_nonneg (-n) (show k ≠ 0 by omega)
  have h5 : k * (n / k + -n / k) ≤ 0 := by rw [Int.mul_add]; omega
  have h6 : n / k + -n / k ≤ 0 := by
    rcases Int.lt_or_le 0 (n / k + -n / k) with h | h
    · have := Int.mul_pos (show 0 < k by omega) h
      omega
    · exact h
  omega

theorem bs_of {d1 d2 d3 s1 s2 s3 n sq all low high : Int} (hd1 : -1000000 ≤ d1 ∧ d1 ≤ 1000000) (hd2 : -1000000 ≤ d2 ∧ d2 ≤ 1000000) (hd3 : -1000000 ≤ d3 ∧ d3 ≤ 1000000)
    (hs1 : -200000000 ≤ s1 ∧ s1 ≤ 200000000) (hs2 : -200000000 ≤ s2 ∧ s2 ≤ 200000000) (hs3 : -200000000 ≤ s3 ∧ s3 ≤ 200000000) (hs : (s1, s2, s3) ≠ (0, 0, 0))
    (hn : d1 * s1 + d2 * s2 + d3 * s3 = n) (hsq : s1 * s1 + s2 * s2 + s3 * s3 = sq) (hall : d1 * d1 + d2 * d2 + d3 * d3 = all) (hlow : rt sq = low) (hhigh : rtUp sq = high) : Bs d1 d2 d3 s1 s2 s3 n sq all low high := by
  have m1 := mulI_bd hd1 hs1
  have m2 := mulI_bd hd2 hs2
  have m3 := mulI_bd hd3 hs3
  have a1 := mulI_bd hd1 hd1
  have a2 := mulI_bd hd2 hd2
  have a3 := mulI_bd hd3 hd3
  have q1 := mulI_bd hs1 hs1
  have q2 := mulI_bd hs2 hs2
  have q3 := mulI_bd hs3 hs3
  have p1 := sqI_nn s1
  have p2 := sqI_nn s2
  have p3 := sqI_nn s3
  have o1 := sqI_nn d1
  have o2 := sqI_nn d2
  have o3 := sqI_nn d3
  have hsq0 : 0 ≤ sq := by omega
  obtain ⟨r0, r1, r2⟩ := rt_spec hsq0
  have hlt := rt_lt (m := 500000000) hsq0 (by omega) (by omega)
  have hup : rtUp sq = if rt sq * rt sq < sq then rt sq + 1 else rt sq := rfl
  have e1 := abs_root hsq0 (show s1 * s1 ≤ sq by omega)
  have e2 := abs_root hsq0 (show s2 * s2 ≤ sq by omega)
  have e3 := abs_root hsq0 (show s3 * s3 ≤ sq by omega)
  rw [hhigh] at hup
  rw [hlow] at *
  have hl1 : 1 ≤ low := by
    rcases Int.lt_or_le 0 low with h | h
    · omega
    · refine absurd ?_ hs
      rw [show s1 = 0 by omega, show s2 = 0 by omega, show s3 = 0 by omega]
  have hlh : low ≤ high ∧ high ≤ low + 1 := by rw [hup]; split <;> omega
  have n1 := mulI_bd hd1 e1
  have n2 := mulI_bd hd2 e2
  have n3 := mulI_bd hd3 e3
  have f1 := divI_bd (n := n) (k := low) (A := 3000000) hl1 (by omega) (by omega)
  have f2 := divI_bd (n := n) (k := high) (A := 3000000) (by omega) (by omega) (by omega)
  have f3 := divI_bd (n := -n) (k := low) (A := 3000000) hl1 (by omega) (by omega)
  have f4 := divI_bd (n := -n) (k := high) (A := 3000000) (by omega) (by omega) (by omega)
  have g1 := floorI_ceil (n := n) (k := low) hl1
  have g2 := floorI_ceil (n := n) (k := high) (by omega)
  refine ⟨hl1, hlh.1, by omega, by omega, by omega, by omega, ?_⟩
  unfold aLo aHi imn imx
  split <;> split <;> omega

/-- The lower end is not above the upper one. -/
theorem c_le {all n low high : Int} (ha : all ≤ 3000000000000) (h : -10000000 ≤ aLo n low high ∧ aLo n low high ≤ aHi n low high ∧ aHi n low high ≤ 10000000) : cLo all n low high ≤ cHi all n low high := by
  unfold cLo cHi
  have hge : lE n low high ≤ gE n low high ∧ 0 ≤ lE n low high := by
    unfold lE gE imx
    split <;> split <;> split <;> omega
  have hsq : lE n low high * lE n low high ≤ gE n low high * gE n low high := Int.mul_le_mul hge.1 hge.1 hge.2 (by omega)
  have hx : imx 0 (all - gE n low high * gE n low high) ≤ imx 0 (all - lE n low high * lE n low high) ∧ 0 ≤ imx 0 (all - gE n low high * gE n low high) := by
    unfold imx
    split <;> split <;> omega
  generalize imx 0 (all - gE n low high * gE n low high) = u at *
  generalize imx 0 (all - lE n low high * lE n low high) = v at *
  obtain ⟨r0, r1, r2⟩ := rt_spec hx.2
  obtain ⟨t0, t1⟩ := up_rt v (by omega)
  rcases Int.lt_or_le (rtUp v) (rt u) with h' | h'
  · have := Int.mul_lt_mul' (Int.le_of_lt h') h' t1 (by omega : 0 < rt u)
    omega
  · exact h'
end Go.Ob
