/- Chapter 2: lists of ranges in the small memory: one tick more, equality, how many ticks. -/
/- Chapter 2: lists of ranges in the small memory: equality, how many ticks. -/
import Derived.Test.Ythpjhpfebjjanaa02Rg
import Derived.Test.Ythpjhpfebjjanaa02C
import Derived.Test.Ythpjhpfebjjanaa02Bm
set_option linter.unusedSimpArgs false
set_option linter.unusedVariables false
section
namespace Go.Proofs.Ythpjhpfebjjanaa
open Go Go.RowKit Go.Ob Go.Ab
set_option maxRecDepth 100000
set_option maxHeartbeats 1000000
attribute [local irreducible] OQ OW AL AW AD AF SW

theorem rgV_rn (σ : Nat → Nat) (b : Nat) (L : List (Int × Int)) : rn3 σ (rgV b L) = rgV (σ b) L := by
  unfold rgV
  split <;> rfl
theorem rgV_ok {n b : Nat} (L : List (Int × Int)) (h : b < n) : ok3 n (rgV b L) = true := by
  unfold rgV
  split
  · rfl
  · simp [ok3, ok2, ok1, h]
theorem rgV_rn2 (σ : Nat → Nat) (b : Nat) (L : List (Int × Int)) : rn2 σ (rgV b L) = rgV (σ b) L := by
  unfold rgV
  split <;> rfl
theorem rgV_ok2 {n b : Nat} (L : List (Int × Int)) (h : b < n) : ok2 n (rgV b L) = true := by
  unfold rgV
  split
  · rfl
  · simp [ok2, ok1, h]
theorem rgB_spec {L : List (Int × Int)} {b : Blk} (h : rgB L = some b) : L ≠ [] ∧ b = ⟨flatR L, true, 2⟩ := by
  unfold rgB at h
  split at h
  · cases h
  · rename_i hl
    cases h
    exact ⟨hl, rfl⟩
theorem rgB_scal (L : List (Int × Int)) : ∀ b, rgB L = some b → b.own = true ∧ b.cells.all Ab.scal = true := fun b h => by
  obtain ⟨_, rfl⟩ := rgB_spec h
  exact ⟨rfl, flatR_scal L⟩

theorem tk_all {cs : List Value} {n : Nat} (h : cs.length = n) : cs.take n = cs := List.take_of_length_le (by omega)
theorem here1 {b : Blk} : ∀ x, x < List.length [some b] → ∃ blk, Mem.at [some b] x = some blk := fun x hx => by
  simp at hx
  subst hx
  exact ⟨_, rfl⟩

end Go.Proofs.Ythpjhpfebjjanaa
end

section
namespace Go.Proofs.Ythpjhpfebjjanaa
open Go Go.RowKit Go.Ob Go.Ab
set_option maxRecDepth 100000
set_option maxHeartbeats 1000000

section
attribute [local irreducible] OQ OW AL AW AD AF SW
end
end Go.Proofs.Ythpjhpfebjjanaa
end
