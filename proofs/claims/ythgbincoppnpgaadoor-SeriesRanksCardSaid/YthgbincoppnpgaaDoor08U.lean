/- Chapter 8: the rank, round by round, in plain Lean. -/
import Derived.Test.YthgbincoppnpgaaDoor08N
set_option linter.unusedSimpArgs false
set_option linter.unusedVariables false
namespace Go.Sr
def Rb (P2 P1 : Prop) (b : Int) : Prop := (b = 2 ∧ P2) ∨ (b = 1 ∧ ¬ P2 ∧ P1) ∨ (b = 0 ∧ ¬ P2 ∧ ¬ P1)
def F2 (L : List V3) (i k : Nat) : Prop := E2 L i ∨ ∃ j, j < k ∧ crs (gv L i) (gv L j) ≠ (0, 0, 0)
def F3 (L : List V3) (i k : Nat) : Prop := ¬ E3 L i ∧ ∀ j m, j < k → m < j → dt (crs (gv L i) (gv L j)) (gv L m) = 0
def R1 (L : List V3) (i : Nat) (b : Int) : Prop := ¬ E3 L i ∧ Rb (E2 L i) (E1 L i) b
def R2 (L : List V3) (i k : Nat) (b : Int) : Prop := F3 L i k ∧ Rb (F2 L i k) (E1 L (i + 1)) b
def R3 (L : List V3) (i k j : Nat) : Prop := F3 L i k ∧ F2 L i (k + 1) ∧ ∀ m, m < j → dt (crs (gv L i) (gv L k)) (gv L m) = 0
theorem E1_succ (L : List V3) (i : Nat) : E1 L (i + 1) ↔ E1 L i ∨ gv L i ≠ (0, 0, 0) := by
  constructor
  · rintro ⟨j, hj, h⟩
    by_cases e : j = i
    · subst e; exact .inr h
    · exact .inl ⟨j, by omega, h⟩
  · rintro (⟨j, hj, h⟩ | h)
    · exact ⟨j, by omega, h⟩
    · exact ⟨i, by omega, h⟩
theorem F2_succ (L : List V3) (i k : Nat) : F2 L i (k + 1) ↔ F2 L i k ∨ crs (gv L i) (gv L k) ≠ (0, 0, 0) := by
  unfold F2
  constructor
  · rintro (h | ⟨j, hj, h⟩)
    · exact .inl (.inl h)
    · by_cases e : j = k
      · subst e; exact .inr h
      · exact .inl (.inr ⟨j, by omega, h⟩)
  · rintro ((h | ⟨j, hj, h⟩) | h)
    · exact .inl h
    · exact .inr ⟨j, by omega, h⟩
    · exact .inr ⟨k, by omega, h⟩
theorem F2_zero (L : List V3) (i : Nat) : F2 L i 0 ↔ E2 L i := by
  unfold F2
  constructor
  · rintro (h | ⟨j, hj, _⟩)
    · exact h
    · omega
  · exact .inl
theorem F2_full (L : List V3) (i : Nat) : F2 L i i ↔ E2 L (i + 1) := by
  unfold F2
  constructor
  · rintro (⟨j, k, h1, h2, h3⟩ | ⟨j, hj, h⟩)
    · exact ⟨j, k, h1, by omega, h3⟩
    · exact ⟨i, j, hj, by omega, h⟩
  · rintro ⟨j, k, h1, h2, h3⟩
    by_cases e : j = i
    · subst e; exact .inr ⟨k, h1, h3⟩
    · exact .inl ⟨j, k, h1, by omega, h3⟩
theorem F3_full {L : List V3} {i : Nat} (h : F3 L i i) : ¬ E3 L (i + 1) := by
  rintro ⟨j, k, m, h1, h2, h3, h4⟩
  by_cases e : j = i
  · subst e; exact h4 (h.2 k m h2 h1)
  · exact h.1 ⟨j, k, m, h1, h2, by omega, h4⟩
theorem Rb.up1 {P2 P1 Q1 : Prop} {b : Int} (h : Rb P2 P1 b) (hq : Q1) : Rb P2 Q1 (if 1 > b then 1 else b) := by
  rcases h with ⟨rfl, h1⟩ | ⟨rfl, h1, h2⟩ | ⟨rfl, h1, h2⟩
  · exact .inl ⟨rfl, h1⟩
  · exact .inr (.inl ⟨rfl, h1, hq⟩)
  · exact .inr (.inl ⟨rfl, h1, hq⟩)
theorem Rb.iff {P2 P1 Q2 Q1 : Prop} {b : Int} (h : Rb P2 P1 b) (h2 : P2 ↔ Q2) (h1 : P1 ↔ Q1) : Rb Q2 Q1 b := by
  unfold Rb at *
  rwa [← h2, ← h1]
theorem R1.start (L : List V3) : R1 L 0 0 := ⟨fun ⟨_, _, _, _, _, h, _⟩ => by omega, .inr (.inr ⟨rfl, fun ⟨_, _, _, h, _⟩ => by omega, fun ⟨_, h, _⟩ => by omega⟩)⟩
theorem R1.in1 {L : List V3} {i : Nat} {b : Int} (h : R1 L i b) (hv : gv L i ≠ (0, 0, 0)) : R2 L i 0 (if 1 > b then 1 else b) :=
  ⟨⟨h.1, fun j m hj => by omega⟩, ((h.2.iff (F2_zero L i).symm Iff.rfl).up1 ((E1_succ L i).2 (.inr hv)))⟩
theorem R1.in0 {L : List V3} {i : Nat} {b : Int} (h : R1 L i b) (hv : gv L i = (0, 0, 0)) : R2 L i 0 b :=
  ⟨⟨h.1, fun j m hj => by omega⟩, h.2.iff (F2_zero L i).symm ⟨fun h => (E1_succ L i).2 (.inl h), fun h => ((E1_succ L i).1 h).elim id fun h' => absurd hv h'⟩⟩
theorem R2.skip {L : List V3} {i k : Nat} {b : Int} (h : R2 L i k b) (hv : crs (gv L i) (gv L k) = (0, 0, 0)) : R2 L i (k + 1) b := by
  refine ⟨⟨h.1.1, fun j m hj hm => ?_⟩, h.2.iff ⟨fun h => (F2_succ L i k).2 (.inl h), fun h => ((F2_succ L i k).1 h).elim id fun h' => absurd hv h'⟩ Iff.rfl⟩
  by_cases e : j = k
  · subst e
    rw [hv]
    simp [dt]
  · exact h.1.2 j m (by omega) hm
theorem R2.max {L : List V3} {i k : Nat} {b : Int} (h : R2 L i k b) : (if 2 > b then 2 else b) = 2 := by
  rcases h.2 with ⟨rfl, _⟩ | ⟨rfl, _⟩ | ⟨rfl, _⟩ <;> rfl
theorem R2.in3 {L : List V3} {i k : Nat} {b : Int} (h : R2 L i k b) (hv : crs (gv L i) (gv L k) ≠ (0, 0, 0)) : R3 L i k 0 := ⟨h.1, (F2_succ L i k).2 (.inr hv), fun m hm => by omega⟩
theorem R3.step {L : List V3} {i k j : Nat} (h : R3 L i k j) (hv : dt (crs (gv L i) (gv L k)) (gv L j) = 0) : R3 L i k (j + 1) := by
  refine ⟨h.1, h.2.1, fun m hm => ?_⟩
  by_cases e : m = j
  · subst e; exact hv
  · exact h.2.2 m (by omega)
theorem R3.out {L : List V3} {i k : Nat} (h : R3 L i k k) : R2 L i (k + 1) 2 := by
  refine ⟨⟨h.1.1, fun j m hj hm => ?_⟩, .inl ⟨rfl, h.2.1⟩⟩
  by_cases e : j = k
  · subst e; exact h.2.2 m hm
  · exact h.1.2 j m (by omega) hm
theorem R2.out {L : List V3} {i : Nat} {b : Int} (h : R2 L i i b) : R1 L (i + 1) b := ⟨F3_full h.1, h.2.iff (F2_full L i) Iff.rfl⟩
theorem rk_three {L : List V3} {i k j : Nat} (hi : i < L.length) (hk : k < i) (hj : j < k) (h : dt (crs (gv L i) (gv L k)) (gv L j) ≠ 0) : rkF L L.length = 3 := by
  unfold rkF
  rw [if_pos ⟨i, k, j, hj, hk, hi, h⟩]
theorem R1.rk {L : List V3} {b : Int} (h : R1 L L.length b) : rkF L L.length = b := by
  unfold rkF
  rw [if_neg h.1]
  rcases h.2 with ⟨rfl, h2⟩ | ⟨rfl, h2, h1⟩ | ⟨rfl, h2, h1⟩
  · rw [if_pos h2]
  · rw [if_neg h2, if_pos h1]
  · rw [if_neg h2, if_neg h1]
def VB (L : List V3) : Prop := ∀ k, k < L.length → (-400 ≤ (gv L k).1 ∧ (gv L k).1 ≤ 400) ∧ (-400 ≤ (gv L k).2.1 ∧ (gv L k).2.1 ≤ 400) ∧ -400 ≤ (gv L k).2.2 ∧ (gv L k).2.2 ≤ 400
end Go.Sr
