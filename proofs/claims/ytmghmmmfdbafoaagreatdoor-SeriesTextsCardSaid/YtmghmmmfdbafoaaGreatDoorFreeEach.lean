/- The law on drawn regions (Free), met in a round of a range over a function. -/
/- A range over a method value in a function's own body: the law in the form of the plain walk, and how such a function ends. -/
import Derived.Test.YtmghmmmfdbafoaaGreatDoorFree
import Derived.RangeFuncNested
import Derived.RangeFuncBound
import Derived.RangeFuncCalls
import Derived.RangeFuncLeaves
import Derived.RangeFuncFrom
import Derived.OwnWalkIn
import Derived.TacticsInMore
import Derived.LoopNIn
import Derived.LoopIn
import Derived.Shelf.Abstract
set_option linter.unusedSimpArgs false
set_option linter.unusedVariables false
section
namespace Go
open Go.RowKit
namespace Free
theorem rows_wide {n : Nat} {P : Program} {row : String} {args : Array Value} {w : World} {R : Value → World → Prop} (h : Rows P row args w R) : RowsIn Fence.wide n P row args w R :=
  fun c cs _ => let ⟨v, w', r, s⟩ := h c cs; ⟨v, w', r, stepsIn_wide.2 s⟩

theorem op_in {lp n : Nat} {P : Program} {o : Oper} {a : Act} {w : World} {K : Act → World → Prop} {Q : Exit → Act → World → Prop} (hd : ∀ c, o.op ≠ .defer c) (h : o.wp P a w K Q) :
    o.wpIn (Fence.wide.inRound lp) n P a w K Q := by
  refine ⟨fun _ _ => trivial, ?_⟩
  rw [show (Fence.wide.inRound lp).round = some lp from rfl, Oper.semAt_some lp a.eval o hd]
  unfold Oper.wp at h
  generalize (execOp a.eval o).run P w = r at *
  cases r with
  | ok n w' =>
    cases n <;> simp only [Oper.upon, Oper.uponIn] at h ⊢ <;>
      first
      | exact h
      | exact ⟨fun h' => (by cases h'), ((callsIn_wide.2 h).inRound lp).mono fun e w'' h => (by cases e <;> exact h)⟩
      | exact ⟨fun h' => (by cases h'), rows_wide h⟩
  | halt x w' =>
    cases x <;> simp only [Oper.upon, Oper.uponIn] at h ⊢ <;> exact h

def noDefer (o : Oper) : Bool := match o.op with | .defer _ => false | _ => true
theorem noDefer_spec {o : Oper} (h : noDefer o = true) : ∀ c, o.op ≠ .defer c := fun c e => by simp [noDefer, e] at h

theorem any_in {lp n : Nat} {P : Program} {ops : Array Oper} {Q : Exit → Act → World → Prop} (hd : ops.all noDefer = true) (hQ : ¬ LetsOut Q) : ∀ (f : Nat) (listed : Array Bool) (a : Act) (w : World),
    wpAny P .any ops Q f listed a w → wpAnyIn (Fence.wide.inRound lp) n P .any ops Q f listed a w
  | 0, _, _, _, h => h
  | f + 1, listed, a, w, h => by
    refine ⟨h.1, fun i hi => ?_⟩
    have hi' := h.2 i hi
    unfold wpOp at hi'
    unfold wpOpIn
    cases ho : ops[i]? with
    | none => rw [ho] at hi'; exact any_in hd hQ f _ a w hi'
    | some o =>
      rw [ho] at hi'
      simp only at hi' ⊢
      split at hi'
      · rename_i hw
        rw [if_pos hw]
        rcases hi' with h' | ⟨_, h'⟩
        · have hmem : o ∈ ops := Array.mem_of_getElem? ho
          exact op_in (noDefer_spec (Array.all_eq_true'.1 hd o hmem)) (Oper.wp_mono (fun a w h => any_in hd hQ f _ a w h) h')
        · exact absurd h' hQ
      · rename_i hw
        rw [if_neg hw]
        exact ⟨fun _ _ => trivial, any_in hd hQ f _ _ w hi'⟩

/-! A range over a method value: the iterator's own receiver stands ahead of yield; rounds are counted. -/

/-- Nothing turns but blocks from n₀ up to n₁, and what is new. -/
structure Keeps (n₀ n₁ : Nat) (W W' : World) : Prop where
  os : W'.os = W.os
  tape : W'.tape = W.tape
  output : W'.output = W.output
  size : W.heap.size ≤ W'.heap.size
  block : ∀ b, b < W.heap.size → (b < n₀ ∨ n₁ ≤ b) → W'.heap[b]? = W.heap[b]?

theorem Keeps.refl (n₀ n₁ : Nat) (W : World) : Keeps n₀ n₁ W W := ⟨rfl, rfl, rfl, Nat.le_refl _, fun _ _ _ => rfl⟩
theorem Keeps.trans {n₀ n₁ : Nat} {A B C : World} (h : Keeps n₀ n₁ A B) (k : Keeps n₀ n₁ B C) : Keeps n₀ n₁ A C :=
  ⟨k.os.trans h.os, k.tape.trans h.tape, k.output.trans h.output, Nat.le_trans h.size k.size, fun b hb hr => (k.block b (Nat.lt_of_lt_of_le hb h.size) hr).trans (h.block b hb hr)⟩
theorem Keeps.grow {n₀ n₁ : Nat} {A B C : World} (h : Keeps n₀ n₁ A B) (k : Below B.heap.size B C) : Keeps n₀ n₁ A C :=
  h.trans ⟨k.os, k.tape, k.output, k.size, fun b hb _ => k.block b hb⟩
theorem Keeps.alloc {n₀ n₁ : Nat} {A B : World} (h : Keeps n₀ n₁ A B) (o : Obj) : Keeps n₀ n₁ A (B.alloc o) := h.grow ((Below.refl _ B).alloc (Nat.le_refl _) o)
theorem Keeps.drew {n₀ n₁ : Nat} {A B : World} (h : Keeps n₀ n₁ A B) : Keeps n₀ n₁ A B.drew := h.grow ((Below.refl _ B).drew)
theorem Keeps.setCell {n₀ n₁ : Nat} {A B : World} (h : Keeps n₀ n₁ A B) {p : Addr} (hp : (n₀ ≤ p.block ∧ p.block < n₁) ∨ A.heap.size ≤ p.block) (u : Value) : Keeps n₀ n₁ A (B.setCell p u) := by
  have hb := (Below.refl p.block B).setCell (p := p) (Nat.le_refl _) u
  have hfar : ∀ b, b ≠ p.block → (B.setCell p u).heap[b]? = B.heap[b]? := fun b hne => by
    have := (KeepsOthers.setCell B p u)
    simp only [World.setCell, Array.getElem?_modify]
    rw [if_neg (Ne.symm hne)]
  refine ⟨hb.os.trans h.os, hb.tape.trans h.tape, hb.output.trans h.output, by simp; exact h.size, fun b hb' hr => ?_⟩
  rw [hfar b (by omega)]
  exact h.block b hb' hr
theorem Keeps.put {n₀ n₁ : Nat} {A : World} {l : Nat} {o : Obj} (o' : Obj) (h1 : n₀ ≤ l) (h2 : l < n₁) (hl : A.heap[l]? = some o) : Keeps n₀ n₁ A (A.putObj l o') := by
  have hb := (Below.refl l A).grown (grownBy_putObj' A l o') (Nat.le_of_lt (Array.getElem?_eq_some_iff.1 hl).1) (fun k e => by cases e; exact Nat.le_refl _)
  exact ⟨hb.os, hb.tape, hb.output, hb.size, fun b _ hr => World.putObj_heap_other (by omega)⟩
theorem Keeps.below {n₀ n₁ : Nat} {w A B : World} (hw : n₀ ≤ w.heap.size) (h : Below n₀ w A) (k : Keeps n₀ n₁ A B) : Below n₀ w B :=
  ⟨k.os.trans h.os, k.tape.trans h.tape, k.output.trans h.output, Nat.le_trans h.size k.size, fun b hb => (k.block b (by have := h.size; omega) (.inl hb)).trans (h.block b hb)⟩

theorem Keeps.cell {n₀ n₁ : Nat} {A B : World} (h : Keeps n₀ n₁ A B) {b : Nat} (o : Nat) (hb : b < A.heap.size) (hr : b < n₀ ∨ n₁ ≤ b) : B.cell? ⟨b, o, none⟩ = A.cell? ⟨b, o, none⟩ := by
  have := h.block b hb hr
  simp [World.cell?, this]

/-- What the loop's own book-keeping leaves as it is. -/
structure Bides (B : Nat) (I : Nat → World → Prop) : Prop where
  grows : ∀ k A A', I k A → Below A.heap.size A A' → I k A'
  puts : ∀ k A l o o', B ≤ l → A.heap[l]? = some o → o.isCells = false → I k A → I k (A.putObj l o')

end Free
end Go
end

section
namespace Go
open Go.RowKit
namespace Free
variable {P : Program}

/-- The marks of loops that are over: each one's block is shut. -/
def Marks : List Deferred → World → World → Prop
  | [], w, w' => w = w'
  | d :: ds, w, w' => ∃ D, d = { target := .collected D, args := #[] } ∧ w.heap[D]? = some (.deferred (some [])) ∧ Marks ds (w.putObj D (.deferred none)) w'

/-- What the body of a function with such loops must achieve. -/
def bodyPostE (P : Program) (fn : Func) (R : Ending → World → Prop) : Exit → Act → World → Prop
  | .normal, a, w | .ret, a, w => ∃ w', Marks a.defers w w' ∧ ∃ v, (results fn a.tmps).run P w' = .ok v w' ∧ R (.returned v) w'
  | .outgrown, _, w => R .outgrown w
  | _, _, _ => False

theorem leaves_of {fn : Func} {tmps : Array Value} {R : Ending → World → Prop} {n : Nat} : ∀ (ds : List Deferred) (w w' : World), Marks ds w w' → (∃ v, (results fn tmps).run P w' = .ok v w' ∧ R (.returned v) w') →
    LeavesInM Fence.wide n P fn tmps R ds .returning w
  | [], w, w', h, k => by
    have e : w = w' := h
    subst e
    exact k
  | d :: ds, w, w', ⟨D, hd, hD, h⟩, k => by
    subst hd
    exact ⟨by simp, .inl ⟨D, _, rfl, run_takeDeferred hD, leaves_of ds _ w' h k⟩⟩

theorem calls_of_each {f : FuncId} {fn : Func} {c : Code} {args : Array Value} {w : World} {R : Ending → World → Prop}
    (hf : P.funcs[f]? = some fn) (hb : fn.body = some c)
    (h : c.wp P (bodyPostE P fn R) { tmps := args ++ Array.replicate (fn.ntmps - args.size) undef, defers := [] } w) : Calls P f args w R := by
  refine (callsIn_wide (n := 8)).1 (callsIn_of_wp_marks hf hb trivial (wpIn_wide.2 (wp_mono h ?_)))
  rintro e a w hp
  cases e with
  | normal => obtain ⟨w', hm, k⟩ := hp; exact leaves_of _ _ _ hm k
  | ret => obtain ⟨w', hm, k⟩ := hp; exact leaves_of _ _ _ hm k
  | outgrown => exact hp
  | _ => exact hp.elim

theorem Grow.put {a w : World} (h : Below a.heap.size a w) {D : Nat} (hD : a.heap.size ≤ D) {o : Obj} (hl : w.heap[D]? = some o) (o' : Obj) : Below a.heap.size a (w.putObj D o') :=
  h.grown (grownBy_putObj' w D o') h.size (fun k e => by cases e; exact hD)

def setTo (a : Act) (p d : Nat) (v : Value) : Act := { tmps := (a.tmps.setIfInBounds p v).setIfInBounds d v, defers := [] }

/-! What abides the loop's own book-keeping. -/
theorem Bides.below {B n₀ : Nat} {w0 : World} (h0 : n₀ ≤ w0.heap.size) (h : n₀ ≤ B) : Bides B fun _ W => Below n₀ w0 W :=
  ⟨fun _ A A' hi hb => Below.trans hi (hb.mono (by have := hi.size; omega)), fun _ A l o o' hl ho _ hi => hi.grown (grownBy_putObj' A l o') (by have := hi.size; omega) (fun k e => by cases e; omega)⟩
theorem Bides.none {B : Nat} : Bides B fun _ _ => False := ⟨fun _ _ _ h _ => h, fun _ _ _ _ _ _ _ _ h => h⟩
/-- A block of cells stands. -/
theorem Bides.block {B b : Nat} (c : Nat → Obj) (h : b < B) : Bides B fun n W => W.heap[b]? = some (c n) :=
  ⟨fun _ A A' hi hb => (hb.block b (Array.getElem?_eq_some_iff.1 hi).1).trans hi, fun _ A l o o' hl ho _ hi => (World.putObj_heap_other (by omega)).trans hi⟩
theorem blk_setCell_same {w : World} {g i : Nat} {c : Array Value} {ty : TypeId} {fr : Nat × Nat} (h : w.heap[g]? = some (.cells c ty fr)) (v : Value) : (w.setCell ⟨g, i, none⟩ v).heap[g]? = some (.cells (c.setIfInBounds i v) ty fr) := by
  simp [World.setCell, Array.getElem?_modify, h]
end Free
end Go
end
