/- Chapter 2 in plain Lean: the text of a state, and the state with a text. -/
import Derived.Test.YthhhkjbhhjcjoaaGreatDoor02Spec
import Derived.Test.YthhhkjbhhjcjoaaGreatDoorTx
set_option linter.unusedSimpArgs false
set_option linter.unusedVariables false
namespace Go.Ob
open Go.Lib Go.Tx
def numsS (s : St) : List Int := [s.t, s.x, s.y, s.z, s.e]
/-- The text of a state. -/
def fmtS (s : St) : List UInt8 := join ((numsS s).map itoa) [32]
/-- The state with a text, and the error. -/
def prsS (l : List UInt8) : St × Int :=
  match (cutAt 32 l).map numR with
  | [some t, some x, some y, some z, some e] => if stE ⟨t, x, y, z, e⟩ = 0 then (⟨t, x, y, z, e⟩, 0) else (St0, stE ⟨t, x, y, z, e⟩)
  | _ => (St0, 7)
theorem bnd_0 {n lo hi : Int} (h : bnd n lo hi = 0) : lo ≤ n ∧ n ≤ hi := by
  unfold bnd at h
  split at h
  · assumption
  · cases h
theorem firstE_0 {e : Int} {r : List Int} (h : firstE (e :: r) = 0) : e = 0 ∧ firstE r = 0 := by
  unfold firstE at h
  split at h
  · rename_i he
    exact ⟨he, h⟩
  · rename_i he
    exact absurd h he
theorem stE_bd {s : St} (h : stE s = 0) : ∀ n ∈ numsS s, -9999999999 ≤ n ∧ n ≤ 9999999999 := by
  obtain ⟨h1, h2⟩ := firstE_0 h
  obtain ⟨h3, h4⟩ := firstE_0 h2
  obtain ⟨h5, _⟩ := firstE_0 h4
  obtain ⟨h6, h7⟩ := firstE_0 h3
  obtain ⟨h8, h9⟩ := firstE_0 h7
  obtain ⟨h10, _⟩ := firstE_0 h9
  have := bnd_0 h1
  have := bnd_0 h5
  have := bnd_0 h6
  have := bnd_0 h8
  have := bnd_0 h10
  intro n hn
  simp only [numsS, List.mem_cons, List.not_mem_nil, or_false] at hn
  rcases hn with rfl | rfl | rfl | rfl | rfl <;> omega
theorem fmt_cut (s : St) : cutAt 32 (fmtS s) = (numsS s).map itoa :=
  cut_join 32 _ _ fun y hy => by
    have hy : y ∈ (numsS s).map itoa := hy
    obtain ⟨n, _, rfl⟩ := List.mem_map.1 hy
    exact itoa_clean n 32 (by decide) (by decide)
/-- A right state is read back. -/
theorem prs_fmt {s : St} (h : stE s = 0) : prsS (fmtS s) = (s, 0) := by
  have hb := stE_bd h
  have e : ((numsS s).map itoa).map numR = (numsS s).map some := by
    rw [List.map_map]
    exact List.map_congr_left fun n hn => num_itoa n (hb n hn).1 (hb n hn).2
  unfold prsS
  rw [fmt_cut, e]
  show (if stE s = 0 then (s, 0) else (St0, stE s)) = _
  rw [if_pos h]
/-- As the reference writes it. -/
theorem fmt_ref (s : St) : fmtS s = (((itoa s.t ++ [32] ++ itoa s.x) ++ [32] ++ itoa s.y) ++ [32] ++ itoa s.z) ++ [32] ++ itoa s.e := by
  unfold fmtS numsS
  simp only [List.map_cons, List.map_nil, join_cons, joinTail]
  simp
theorem prs_len {l : List UInt8} (h : (cutAt 32 l).length ≠ 5) : prsS l = (St0, 7) := by
  unfold prsS
  split
  · rename_i he
    exact absurd (by simpa using congrArg List.length he) h
  · rfl
theorem prs_5 {l a b c d e : List UInt8} (h : cutAt 32 l = [a, b, c, d, e]) {t x y z w : Int} (h1 : numR a = some t) (h2 : numR b = some x) (h3 : numR c = some y) (h4 : numR d = some z) (h5 : numR e = some w) :
    prsS l = if stE ⟨t, x, y, z, w⟩ = 0 then (⟨t, x, y, z, w⟩, 0) else (St0, stE ⟨t, x, y, z, w⟩) := by
  unfold prsS
  rw [h]
  simp only [List.map_cons, List.map_nil, h1, h2, h3, h4, h5]
theorem prs_no {l : List UInt8} {p : List UInt8} (hp : p ∈ cutAt 32 l) (h : numR p = none) : prsS l = (St0, 7) := by
  unfold prsS
  split
  · rename_i he
    have : none ∈ (cutAt 32 l).map numR := List.mem_map.2 ⟨p, hp, h⟩
    rw [he] at this
    simp at this
  · rfl
theorem itoa_len (v : Int) (h0 : -9223372036854775808 ≤ v) (h1 : v ≤ 9223372036854775807) : (itoa v).length ≤ 20 := by
  have key : ∀ (k u : Nat), u < 10 ^ (k + 1) → (decDigits u).length ≤ k + 1 := by
    intro k
    induction k with
    | zero => intro u hu; rw [dec_lt (by simpa using hu)]; simp
    | succ k ih =>
      intro u hu
      by_cases hs : u < 10
      · rw [dec_lt hs]; simp
      · rw [dec_ge hs, List.length_append]
        have := ih (u / 10) (by rw [Nat.pow_succ] at hu; omega)
        simp
        omega
  unfold itoa
  split
  · have := key 18 v.natAbs (by omega)
    simp
    omega
  · have := key 18 v.toNat (by omega)
    omega
end Go.Ob
