/- One law on a region that draws its order: its operations are walked once, in the order of the text. Quiet operations yield one value in every world grown from the region's first one; others are told by a fact; new variables and the stores that fill them may come at any time; a tail goes in order. -/
import Derived.StillTail
import Derived.Below
import Derived.Deep.Quiet
import Derived.Laws.Tables
import Derived.WalkKit
import Derived.Deep.QuietTactic
section
set_option linter.unusedSimpArgs false
set_option linter.unusedVariables false
namespace Go
open Go.RowKit
structure Grw (B : Nat) (w w' : World) : Prop where
 os : w'.os = w.os
 tape : w'.tape = w.tape
 output : w'.output = w.output ∧ w.drawn ≤ w'.drawn
 size : w.heap.size ≤ w'.heap.size
 block : ∀ k, k < B → w'.heap[k]? = w.heap[k]?
theorem Grw.below {B : Nat} {w w' : World} (h : Grw B w w') : Below B w w' := ⟨h.os, h.tape, h.output.1, h.size, h.block⟩
theorem Grw.refl (B : Nat) (w : World) : Grw B w w := ⟨rfl, rfl, ⟨rfl, Nat.le_refl _⟩, Nat.le_refl _, fun _ _ => rfl⟩
namespace Free
abbrev U := Nat → Value
inductive K where
 | q (V : U → Value)
 | r (F : U → (Nat → Prop) → Value → World → Prop)
 | a (z : Array Value) (ty : TypeId)
 | i (k : Nat) (c : U → Array Value)
def bit (b : Array Nat) (i j : Nat) : Bool := (b.getD i 0).testBit j
structure Ctx where
 P : Program
 ops : Array Oper
 b : Array Nat
 n : Nat
 w0 : World
 Q : Exit → Act → World → Prop
variable (X : Ctx)
def chk (ops : Array Oper) (b : Array Nat) (n : Nat) : Bool :=
 Region.noSelect ops && decide (n ≤ ops.size) &&
 ((List.range ops.size).all fun i => ((ops[i]?).map fun o => o.after.all fun e => !Region.binds .any e || decide (e.on < i)).getD false) &&
 ((List.range ops.size).all fun i => (List.range n).all fun j => !bit b i j || ((ops[i]?).map fun o => o.after.any fun e => Region.binds .any e && (e.on == j || bit b e.on j)).getD false) &&
 ((List.range n).all fun i => (List.range n).all fun j => i == j || (match ops[i]?, ops[j]? with
   | some oi, some oj => (match oj.dst with
    | some d => oi.dst != some d && (!(oi.looksAt ops).contains d || (if j < i then bit b i j else bit b j i))
    | none => true)
   | _, _ => false)) &&
 ((List.range ops.size).all fun t => decide (t < n) || (List.range n).all fun j => bit b t j) &&
 Region.seqB .any ops (ops.size - n) n ((Array.replicate n true) ++ Array.replicate (ops.size - n) false)
structure Chk (ops : Array Oper) (b : Array Nat) (n : Nat) : Prop where
 sel : Region.noSelect ops = true
 le : n ≤ ops.size
 back : ∀ i o, ops[i]? = some o → ∀ e ∈ o.after, Region.binds .any e = true → e.on < i
 bits : ∀ i o j, ops[i]? = some o → j < n → bit b i j = true → ∃ e ∈ o.after, Region.binds .any e = true ∧ (e.on = j ∨ bit b e.on j = true)
 dst : ∀ i j oi oj d, i < n → j < n → i ≠ j → ops[i]? = some oi → ops[j]? = some oj → oj.dst = some d → oi.dst ≠ some d ∧ (d ∈ oi.looksAt ops → if j < i then bit b i j = true else bit b j i = true)
 tail : ∀ t o j, ops[t]? = some o → n ≤ t → j < n → bit b t j = true
 seq : Region.seqB .any ops (ops.size - n) n ((Array.replicate n true) ++ Array.replicate (ops.size - n) false) = true
theorem lt_of_get {ops : Array Oper} {i : Nat} {o : Oper} (h : ops[i]? = some o) : i < ops.size := (Array.getElem?_eq_some_iff.1 h).1
theorem Chk.of {ops : Array Oper} {b : Array Nat} {n : Nat} (h : chk ops b n = true) : Chk ops b n := by
 simp only [chk, Bool.and_eq_true] at h
 obtain ⟨⟨⟨⟨⟨⟨h1, h2⟩, h3⟩, h4⟩, h5⟩, h6⟩, h7⟩ := h
 refine ⟨h1, by simpa using h2, ?_, ?_, ?_, ?_, h7⟩
 ·intro i o ho e he hb
  have := List.all_eq_true.1 h3 i (List.mem_range.2 (lt_of_get ho))
  simp only [ho, Option.map_some, Option.getD_some] at this
  have := Array.all_eq_true'.1 this e he
  simpa [hb] using this
 ·intro i o j ho hj hb
  have := List.all_eq_true.1 (List.all_eq_true.1 h4 i (List.mem_range.2 (lt_of_get ho))) j (List.mem_range.2 hj)
  simp only [ho, Option.map_some, Option.getD_some, hb, Bool.not_true, Bool.false_or] at this
  obtain ⟨e, he, h⟩ := Array.any_eq_true'.1 this
  simp only [Bool.and_eq_true, Bool.or_eq_true, beq_iff_eq] at h
  exact ⟨e, he, h.1, h.2⟩
 ·intro i j oi oj d hi hj hij hoi hoj hd
  have := List.all_eq_true.1 (List.all_eq_true.1 h5 i (List.mem_range.2 hi)) j (List.mem_range.2 hj)
  simp only [hoi, hoj, hd, Bool.or_eq_true, beq_iff_eq, hij, false_or, Bool.and_eq_true, bne_iff_ne] at this
  refine ⟨this.1, fun hm => ?_⟩
  rcases this.2 with h | h
  ·have h' : d ∉ oi.looksAt ops := by simpa using h
   exact absurd hm h'
  ·split <;> simp_all
 ·intro t o j ho ht hj
  have := List.all_eq_true.1 h6 t (List.mem_range.2 (lt_of_get ho))
  simp only [Bool.or_eq_true, decide_eq_true_eq] at this
  rcases this with h | h
  ·omega
  ·exact List.all_eq_true.1 h j (List.mem_range.2 hj)
section
variable {ops : Array Oper} {b : Array Nat} {n : Nat} {listed : Array Bool}
structure Closed (ops : Array Oper) (n : Nat) (listed : Array Bool) : Prop where
 size : listed.size = ops.size
 closed : ∀ j oj, ops[j]? = some oj → listed.getD j false = true → ∀ e ∈ oj.after, Region.binds .any e = true → listed.getD e.on false = true
 tail : ∀ t, n ≤ t → listed.getD t false = false
theorem get_lt {i : Nat} (h : listed.getD i false = true) : i < listed.size := by
 rcases Nat.lt_or_ge i listed.size with h' | h'
 ·exact h'
 ·simp [h'] at h
theorem Closed.bits (hc : Chk ops b n) (h : Closed ops n listed) : ∀ (i : Nat) (o : Oper), ops[i]? = some o → (∀ e ∈ o.after, Region.binds .any e = true → listed.getD e.on false = true) →
  ∀ j, j < n → bit b i j = true → listed.getD j false = true := by
 intro i
 induction i using Nat.strongRecOn with
 | _ i ih =>
  intro o ho hall j hj hb
  obtain ⟨e, he, hbd, heq⟩ := hc.bits i o j ho hj hb
  have hl := hall e he hbd
  rcases heq with heq | heq
  ·rw [← heq]; exact hl
  ·have hlt := hc.back i o ho e he hbd
   have hs : e.on < ops.size := by have := get_lt hl; rw [h.size] at this; exact this
   exact ih e.on hlt ops[e.on] (by simp [hs]) (h.closed e.on _ (by simp [hs]) hl) j hj heq
theorem Closed.set {i : Nat} (h : Closed ops n listed) (hi : i ∈ Region.ready .any ops listed) (hin : i < n) : Closed ops n (listed.setIfInBounds i true) := by
 obtain ⟨_, oi, hoi, hall⟩ := mem_ready.1 hi
 refine ⟨by simp [h.size], fun j oj hj hl e he hb => ?_, fun t ht => by rw [getD_set_ne false (by omega)]; exact h.tail t ht⟩
 by_cases hij : i = j
 ·subst hij
  have : oj = oi := Option.some.inj (hj.symm.trans hoi)
  subst this
  exact getD_set_true (hall e he hb)
 ·rw [getD_set_ne false hij] at hl
  exact getD_set_true (h.closed j oj hj hl e he hb)
theorem Closed.full (h : Closed ops n listed) (hn : n ≤ ops.size) (hf : ∀ j, j < n → listed.getD j false = true) : listed = (Array.replicate n true) ++ Array.replicate (ops.size - n) false := by
 apply Array.ext
 ·simp [h.size]; omega
 ·intro i h1 h2
  by_cases hi : i < n
  ·have := hf i hi
   rw [Array.getElem_append_left (by simpa using hi)]
   simpa [h1] using this
  ·have := h.tail i (by omega)
   rw [Array.getElem_append_right (by simp; omega)]
   simpa [h1] using this
end
theorem put_size (a : Act) (d : Option Tmp) (v : Value) : (a.put d v).tmps.size = a.tmps.size := by cases d <;> simp [Act.put]
theorem put_here (a : Act) (d : Nat) (v : Value) (h : d < a.tmps.size) : (a.put (some d) v).tmps[d]? = some v := by simp [Act.put, h]
theorem put_far (a : Act) (d : Option Tmp) (v : Value) (t : Nat) (h : d ≠ some t) : (a.put d v).tmps[t]? = a.tmps[t]? := by
 cases d with
 | none => rfl
 | some d => exact Array.getElem?_setIfInBounds_ne (fun e => h (by rw [e]))
section main
variable {X} {κs : List K} {a0 : Act} {listed : Array Bool} {a : Act} {w : World} {u : U} {i : Nat}
def unl (listed : Array Bool) : Nat → Nat
 | 0 => 0
 | n + 1 => unl listed n + if listed.getD n false = true then 0 else 1
theorem unl_set (h : listed.getD i false = false) (hs : i < listed.size) : ∀ n, unl (listed.setIfInBounds i true) n + (if i < n then 1 else 0) = unl listed n
 | 0 => by simp [unl]
 | n + 1 => by
  have ih := unl_set h hs n
  simp only [unl]
  by_cases hin : i = n
  ·subst hin
   rw [if_neg (Nat.lt_irrefl _)] at ih
   have : (listed.setIfInBounds i true).getD i false = true := by simp [hs]
   rw [this, h]
   simp
   omega
  ·rw [getD_set_ne false hin]
   by_cases hlt : i < n
   ·have h1 : i < n + 1 := by omega
    simp only [hlt, h1, if_true] at ih ⊢; omega
   ·have h1 : ¬ i < n + 1 := by omega
    simp only [hlt, h1, if_false] at ih ⊢; omega
theorem unl_zero : ∀ n, unl listed n = 0 → ∀ j, j < n → listed.getD j false = true
 | 0, _, _, hj => by omega
 | n + 1, h, j, hj => by
  simp only [unl] at h
  by_cases hjn : j = n
  ·subst hjn
   cases hl : listed.getD j false with
   | true => rfl
   | false => rw [hl] at h; simp at h
  ·exact unl_zero n (by omega) j (by omega)
theorem unl_pos : ∀ n, unl listed n ≠ 0 → ∃ j, j < n ∧ listed.getD j false = false ∧ ∀ k, k < j → listed.getD k false = true
 | 0, h => absurd rfl h
 | n + 1, h => by
  by_cases h0 : unl listed n = 0
  ·refine ⟨n, by omega, ?_, unl_zero n h0⟩
   cases hl : listed.getD n false with
   | false => rfl
   | true => simp [unl, h0, hl] at h
  ·obtain ⟨j, hj, h1, h2⟩ := unl_pos n h0
   exact ⟨j, by omega, h1, h2⟩
theorem unl_new (m : Nat) : ∀ n, unl (Array.replicate m false) n = n
 | 0 => rfl
 | n + 1 => by simp only [unl, unl_new m n, getD_replicate_false]; simp
end main
end Free
end Go
namespace Go
open Go.RowKit
namespace Free
section steps
variable {P : Program} {l : Array Oper} {b : Array Nat} {n : Nat} {w0 : World} {Q : Exit → Act → World → Prop} {o : Oper} {ops : List Oper} {i : Nat} {A : U → Act} {acc : List K}
theorem Calls.grow {P : Program} {f : FuncId} {args : Array Value} {w : World} {v : Value} (h : Calls P f args w fun e w' => e = .returned v ∧ w = w') :
  Calls P f args w fun e w' => e = .returned v ∧ Grw w.heap.size w w' := h.mono fun _ _ ⟨h1, h2⟩ => ⟨h1, h2 ▸ Grw.refl _ _⟩
end steps
end Free
end Go
end
