/- The law on drawn regions (Free), met in a round of a range over a function. -/
/- A range over a method value in a function's own body: the law in the form of the plain walk, and how such a function ends. -/
import Derived.Test.YthhhkjbhhjcjoaaGreatDoorFree
import Derived.RangeFuncNested
import Derived.RangeFuncBound
import Derived.RangeFuncCalls
import Derived.RangeFuncLeaves
import Derived.RangeFuncFrom
import Derived.OwnWalkIn
import Derived.TacticsInMore
import Derived.LoopNIn
import Derived.LoopIn
import Derived.Shelf.Abstract
set_option linter.unusedSimpArgs false
set_option linter.unusedVariables false
section
namespace Go
open Go.RowKit
namespace Free
/-! A range over a method value: the iterator's own receiver stands ahead of yield; rounds are counted. -/

/-- Nothing turns but blocks from n₀ up to n₁, and what is new. -/
structure Keeps (n₀ n₁ : Nat) (W W' : World) : Prop where
  os : W'.os = W.os
  tape : W'.tape = W.tape
  output : W'.output = W.output
  size : W.heap.size ≤ W'.heap.size
  block : ∀ b, b < W.heap.size → (b < n₀ ∨ n₁ ≤ b) → W'.heap[b]? = W.heap[b]?

theorem Keeps.refl (n₀ n₁ : Nat) (W : World) : Keeps n₀ n₁ W W := ⟨rfl, rfl, rfl, Nat.le_refl _, fun _ _ _ => rfl⟩
theorem Keeps.trans {n₀ n₁ : Nat} {A B C : World} (h : Keeps n₀ n₁ A B) (k : Keeps n₀ n₁ B C) : Keeps n₀ n₁ A C :=
  ⟨k.os.trans h.os, k.tape.trans h.tape, k.output.trans h.output, Nat.le_trans h.size k.size, fun b hb hr => (k.block b (Nat.lt_of_lt_of_le hb h.size) hr).trans (h.block b hb hr)⟩
theorem Keeps.grow {n₀ n₁ : Nat} {A B C : World} (h : Keeps n₀ n₁ A B) (k : Below B.heap.size B C) : Keeps n₀ n₁ A C :=
  h.trans ⟨k.os, k.tape, k.output, k.size, fun b hb _ => k.block b hb⟩
theorem Keeps.alloc {n₀ n₁ : Nat} {A B : World} (h : Keeps n₀ n₁ A B) (o : Obj) : Keeps n₀ n₁ A (B.alloc o) := h.grow ((Below.refl _ B).alloc (Nat.le_refl _) o)
theorem Keeps.drew {n₀ n₁ : Nat} {A B : World} (h : Keeps n₀ n₁ A B) : Keeps n₀ n₁ A B.drew := h.grow ((Below.refl _ B).drew)
theorem Keeps.setCell {n₀ n₁ : Nat} {A B : World} (h : Keeps n₀ n₁ A B) {p : Addr} (hp : (n₀ ≤ p.block ∧ p.block < n₁) ∨ A.heap.size ≤ p.block) (u : Value) : Keeps n₀ n₁ A (B.setCell p u) := by
  have hb := (Below.refl p.block B).setCell (p := p) (Nat.le_refl _) u
  have hfar : ∀ b, b ≠ p.block → (B.setCell p u).heap[b]? = B.heap[b]? := fun b hne => by
    have := (KeepsOthers.setCell B p u)
    simp only [World.setCell, Array.getElem?_modify]
    rw [if_neg (Ne.symm hne)]
  refine ⟨hb.os.trans h.os, hb.tape.trans h.tape, hb.output.trans h.output, by simp; exact h.size, fun b hb' hr => ?_⟩
  rw [hfar b (by omega)]
  exact h.block b hb' hr
theorem Keeps.put {n₀ n₁ : Nat} {A : World} {l : Nat} {o : Obj} (o' : Obj) (h1 : n₀ ≤ l) (h2 : l < n₁) (hl : A.heap[l]? = some o) : Keeps n₀ n₁ A (A.putObj l o') := by
  have hb := (Below.refl l A).grown (grownBy_putObj' A l o') (Nat.le_of_lt (Array.getElem?_eq_some_iff.1 hl).1) (fun k e => by cases e; exact Nat.le_refl _)
  exact ⟨hb.os, hb.tape, hb.output, hb.size, fun b _ hr => World.putObj_heap_other (by omega)⟩
theorem Keeps.below {n₀ n₁ : Nat} {w A B : World} (hw : n₀ ≤ w.heap.size) (h : Below n₀ w A) (k : Keeps n₀ n₁ A B) : Below n₀ w B :=
  ⟨k.os.trans h.os, k.tape.trans h.tape, k.output.trans h.output, Nat.le_trans h.size k.size, fun b hb => (k.block b (by have := h.size; omega) (.inl hb)).trans (h.block b hb)⟩

theorem Keeps.cell {n₀ n₁ : Nat} {A B : World} (h : Keeps n₀ n₁ A B) {b : Nat} (o : Nat) (hb : b < A.heap.size) (hr : b < n₀ ∨ n₁ ≤ b) : B.cell? ⟨b, o, none⟩ = A.cell? ⟨b, o, none⟩ := by
  have := h.block b hb hr
  simp [World.cell?, this]

/-- What the loop's own book-keeping leaves as it is. -/
structure Bides (B : Nat) (I : Nat → World → Prop) : Prop where
  grows : ∀ k A A', I k A → Below A.heap.size A A' → I k A'
  puts : ∀ k A l o o', B ≤ l → A.heap[l]? = some o → o.isCells = false → I k A → I k (A.putObj l o')

end Free
end Go
end

section
namespace Go
open Go.RowKit
namespace Free
variable {P : Program}

theorem Grow.put {a w : World} (h : Below a.heap.size a w) {D : Nat} (hD : a.heap.size ≤ D) {o : Obj} (hl : w.heap[D]? = some o) (o' : Obj) : Below a.heap.size a (w.putObj D o') :=
  h.grown (grownBy_putObj' w D o') h.size (fun k e => by cases e; exact hD)

/-! What abides the loop's own book-keeping. -/
theorem Bides.below {B n₀ : Nat} {w0 : World} (h0 : n₀ ≤ w0.heap.size) (h : n₀ ≤ B) : Bides B fun _ W => Below n₀ w0 W :=
  ⟨fun _ A A' hi hb => Below.trans hi (hb.mono (by have := hi.size; omega)), fun _ A l o o' hl ho _ hi => hi.grown (grownBy_putObj' A l o') (by have := hi.size; omega) (fun k e => by cases e; omega)⟩
/-- A block of cells stands. -/
theorem Bides.block {B b : Nat} (c : Nat → Obj) (h : b < B) : Bides B fun n W => W.heap[b]? = some (c n) :=
  ⟨fun _ A A' hi hb => (hb.block b (Array.getElem?_eq_some_iff.1 hi).1).trans hi, fun _ A l o o' hl ho _ hi => (World.putObj_heap_other (by omega)).trans hi⟩
end Free
end Go
end
