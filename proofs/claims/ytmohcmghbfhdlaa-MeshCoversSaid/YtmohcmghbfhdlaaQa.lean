/- One law on a region that draws its order: its operations are walked once, in the order of the text. Quiet operations yield one value in every world grown from the region's first one; others are told by a fact; new variables and the stores that fill them may come at any time; a tail goes in order. -/
import Derived.StillTail
import Derived.Below
import Derived.Deep.Quiet
import Derived.Laws.Tables
import Derived.WalkKit
import Derived.Deep.QuietTactic
section
set_option linter.unusedSimpArgs false
set_option linter.unusedVariables false
namespace Go
open Go.RowKit

structure Grw (B : Nat) (w w' : World) : Prop where
  os : w'.os = w.os
  tape : w'.tape = w.tape
  output : w'.output = w.output ∧ w.drawn ≤ w'.drawn
  size : w.heap.size ≤ w'.heap.size
  block : ∀ k, k < B → w'.heap[k]? = w.heap[k]?
theorem Grw.below {B : Nat} {w w' : World} (h : Grw B w w') : Below B w w' := ⟨h.os, h.tape, h.output.1, h.size, h.block⟩
theorem Grw.cell {B : Nat} {w w' : World} (h : Grw B w w') {p : Addr} (hp : p.block < B) : w'.cell? p = w.cell? p := h.below.cell hp
theorem Grw.frozen {B : Nat} {w w' : World} (h : Grw B w w') {p : Addr} (hp : p.block < B) : w'.frozen? p = w.frozen? p := h.below.frozen hp
theorem Grw.refl (B : Nat) (w : World) : Grw B w w := ⟨rfl, rfl, ⟨rfl, Nat.le_refl _⟩, Nat.le_refl _, fun _ _ => rfl⟩
theorem Grw.trans {B : Nat} {a b c : World} (h : Grw B a b) (k : Grw B b c) : Grw B a c :=
  ⟨k.os.trans h.os, k.tape.trans h.tape, ⟨k.output.1.trans h.output.1, Nat.le_trans h.output.2 k.output.2⟩, Nat.le_trans h.size k.size, fun i hi => (k.block i hi).trans (h.block i hi)⟩
theorem Grw.mono {B B' : Nat} {w w' : World} (h : Grw B w w') (hB : B' ≤ B) : Grw B' w w' := ⟨h.os, h.tape, h.output, h.size, fun k hk => h.block k (Nat.lt_of_lt_of_le hk hB)⟩
theorem Grw.drew {B : Nat} {a w : World} (h : Grw B a w) : Grw B a w.drew := ⟨h.os, h.tape, ⟨h.output.1, Nat.le_trans h.output.2 (Nat.le_succ _)⟩, h.size, h.block⟩
theorem Grw.alloc {B : Nat} {a w : World} (h : Grw B a w) (hB : B ≤ w.heap.size) (o : Obj) : Grw B a (w.alloc o) :=
  h.trans ⟨rfl, rfl, ⟨rfl, Nat.le_refl _⟩, by simp, fun k hk => Below.heap_alloc _ _ _ (by omega)⟩
theorem Grw.setCell {B : Nat} {a w : World} (h : Grw B a w) {p : Addr} (hp : B ≤ p.block) (u : Value) : Grw B a (w.setCell p u) :=
  h.trans ⟨rfl, rfl, ⟨rfl, Nat.le_refl _⟩, by simp [World.setCell], fun k hk => Below.heap_setCell _ _ _ _ (by omega)⟩

namespace Free
abbrev U := Nat → Value

inductive K where
  | q (V : U → Value)
  | r (F : U → (Nat → Prop) → Value → World → Prop)
  | a (z : Array Value) (ty : TypeId)
  | i (k : Nat) (c : U → Array Value)

def K.val : K → Nat → U → Value
  | .q V, _, u => V u
  | .i _ _, _, _ => undef
  | .r _, n, u => u n
  | .a _ _, n, u => u n

def bit (b : Array Nat) (i j : Nat) : Bool := (b.getD i 0).testBit j

def relUpon (P : Program) (w : World) (F : Value → World → Prop) : Result Next → Prop
  | .ok (.value v) w' => Grw w.heap.size w w' ∧ F v w'
  | .ok (.enter f args) w' => w' = w ∧ Calls P f args w (fun e w'' => ∃ v, e = .returned v ∧ Grw w.heap.size w w'' ∧ F v w'')
  | _ => False

structure Stored (w : World) (b : Nat) (w' : World) (c : Array Value) (ty : TypeId) : Prop where
  os : w'.os = w.os
  tape : w'.tape = w.tape
  output : w'.output = w.output ∧ w.drawn ≤ w'.drawn
  size : w'.heap.size = w.heap.size
  here : w'.heap[b]? = some (.cells c ty (0, 0))
  far : ∀ k, k ≠ b → w'.heap[k]? = w.heap[k]?

def Agree (m : Nat) (u u' : U) : Prop := ∀ k, m.testBit k = true → u k = u' k

def Mono (F : (Nat → Prop) → World → Prop) : Prop :=
  ∀ (S S' : Nat → Prop) (w w' : World), w.heap.size ≤ w'.heap.size → (∀ b, b < w.heap.size → S b → S' b ∧ w'.heap[b]? = w.heap[b]?) → F S w → F S' w'

structure Ctx where
  P : Program
  ops : Array Oper
  b : Array Nat
  n : Nat
  w0 : World
  Q : Exit → Act → World → Prop

variable (X : Ctx)

def Facts (acc : List K) (m : Nat) (u : U) (S : Nat → Prop) (w : World) : Prop :=
  ∀ j F, acc[j]? = some (K.r F) → m.testBit j = true → F u S (u j) w

def Safe (w0 w : World) (S : Nat → Prop) : Prop := ∀ b, (b < w0.heap.size ∨ w.heap.size ≤ b) → S b

def Ob (i : Nat) (o : Oper) (A : U → Act) (acc : List K) : K → Prop
  | .q V => (∀ u u', Agree (X.b.getD i 0) u u' → V u = V u') ∧
      ∀ u w S, Grw X.w0.heap.size X.w0 w → Facts acc (X.b.getD i 0) u S w →
        if Region.wanted o (yielded X.ops (A u).tmps) = true then o.quietAt X.P (A u) (fun w' => Grw w.heap.size w w') w (V u) else V u = undef
  | .r F => (∀ u u', Agree (X.b.getD i 0) u u' → F u = F u') ∧ (∀ u v, Mono (fun S w => F u S v w)) ∧
      ∀ u w S, Grw X.w0.heap.size X.w0 w → Safe X.w0 w S → Facts acc (X.b.getD i 0) u S w →
        Region.wanted o (yielded X.ops (A u).tmps) = true ∧ relUpon X.P w (F u S) ((execOp (A u).eval o).run X.P w)
  | .a z ty => o.guard = none ∧ ∀ u w, (execOp (A u).eval o).run X.P w = .ok (.value (.pointer (some ⟨w.heap.size, 0, none⟩))) (w.alloc (.cells z ty))
  | .i k c => k < i ∧ bit X.b i k = true ∧ o.guard = none ∧ o.dst = none ∧ (∀ c', K.i k c' ∉ acc) ∧ (∀ u u', Agree (X.b.getD i 0) u u' → c u = c u') ∧
      ∃ z ty, acc[k]? = some (K.a z ty) ∧ ∀ u w b, Grw X.w0.heap.size X.w0 w → X.w0.heap.size ≤ b → u k = .pointer (some ⟨b, 0, none⟩) → w.heap[b]? = some (.cells z ty (0, 0)) →
        ∃ w', (execOp (A u).eval o).run X.P w = .ok .skip w' ∧ Stored w b w' (c u) ty

def final (acc : List K) (j : Nat) (z : Array Value) (u : U) : Array Value :=
  (acc.findSome? fun κ => match κ with | .i k c => if k = j then some (c u) else none | _ => none).getD z

structure Fini (acc : List K) (u : U) (S : Nat → Prop) (w : World) : Prop where
  below : Grw X.w0.heap.size X.w0 w
  safe : Safe X.w0 w S
  facts : ∀ j F, acc[j]? = some (K.r F) → F u S (u j) w
  allocs : ∀ j z ty, acc[j]? = some (K.a z ty) → ∃ b, u j = .pointer (some ⟨b, 0, none⟩) ∧ X.w0.heap.size ≤ b ∧ b < w.heap.size ∧ ¬ S b ∧ w.heap[b]? = some (.cells (final acc j z u) ty (0, 0))
  apart : ∀ j k z ty z' ty', acc[j]? = some (K.a z ty) → acc[k]? = some (K.a z' ty') → j ≠ k → u j ≠ u k

def Walk : List Oper → List K → Nat → (U → Act) → List K → Prop
  | [], [], _, A, acc => ∀ u w S, Fini X acc u S w → wpList X.P X.ops X.Q (X.ops.toList.drop X.n) (A u) w
  | o :: ops, κ :: κs, i, A, acc => Ob X i o A acc κ ∧ Walk ops κs (i + 1) (fun u => (A u).put o.dst (κ.val i u)) (acc ++ [κ])
  | _, _, _, _, _ => False

def E (ops : List Oper) (i : Nat) (A : U → Act) (acc : List K) : Prop := ∃ κs, Walk X ops κs i A acc

def chk (ops : Array Oper) (b : Array Nat) (n : Nat) : Bool :=
  Region.noSelect ops && decide (n ≤ ops.size) &&
  ((List.range ops.size).all fun i => ((ops[i]?).map fun o => o.after.all fun e => !Region.binds .any e || decide (e.on < i)).getD false) &&
  ((List.range ops.size).all fun i => (List.range n).all fun j => !bit b i j || ((ops[i]?).map fun o => o.after.any fun e => Region.binds .any e && (e.on == j || bit b e.on j)).getD false) &&
  ((List.range n).all fun i => (List.range n).all fun j => i == j || (match ops[i]?, ops[j]? with
      | some oi, some oj => (match oj.dst with
        | some d => oi.dst != some d && (!(oi.looksAt ops).contains d || (if j < i then bit b i j else bit b j i))
        | none => true)
      | _, _ => false)) &&
  ((List.range ops.size).all fun t => decide (t < n) || (List.range n).all fun j => bit b t j) &&
  Region.seqB .any ops (ops.size - n) n ((Array.replicate n true) ++ Array.replicate (ops.size - n) false)

structure Chk (ops : Array Oper) (b : Array Nat) (n : Nat) : Prop where
  sel : Region.noSelect ops = true
  le : n ≤ ops.size
  back : ∀ i o, ops[i]? = some o → ∀ e ∈ o.after, Region.binds .any e = true → e.on < i
  bits : ∀ i o j, ops[i]? = some o → j < n → bit b i j = true → ∃ e ∈ o.after, Region.binds .any e = true ∧ (e.on = j ∨ bit b e.on j = true)
  dst : ∀ i j oi oj d, i < n → j < n → i ≠ j → ops[i]? = some oi → ops[j]? = some oj → oj.dst = some d → oi.dst ≠ some d ∧ (d ∈ oi.looksAt ops → if j < i then bit b i j = true else bit b j i = true)
  tail : ∀ t o j, ops[t]? = some o → n ≤ t → j < n → bit b t j = true
  seq : Region.seqB .any ops (ops.size - n) n ((Array.replicate n true) ++ Array.replicate (ops.size - n) false) = true

theorem lt_of_get {ops : Array Oper} {i : Nat} {o : Oper} (h : ops[i]? = some o) : i < ops.size := (Array.getElem?_eq_some_iff.1 h).1

theorem Chk.of {ops : Array Oper} {b : Array Nat} {n : Nat} (h : chk ops b n = true) : Chk ops b n := by
  simp only [chk, Bool.and_eq_true] at h
  obtain ⟨⟨⟨⟨⟨⟨h1, h2⟩, h3⟩, h4⟩, h5⟩, h6⟩, h7⟩ := h
  refine ⟨h1, by simpa using h2, ?_, ?_, ?_, ?_, h7⟩
  · intro i o ho e he hb
    have := List.all_eq_true.1 h3 i (List.mem_range.2 (lt_of_get ho))
    simp only [ho, Option.map_some, Option.getD_some] at this
    have := Array.all_eq_true'.1 this e he
    simpa [hb] using this
  · intro i o j ho hj hb
    have := List.all_eq_true.1 (List.all_eq_true.1 h4 i (List.mem_range.2 (lt_of_get ho))) j (List.mem_range.2 hj)
    simp only [ho, Option.map_some, Option.getD_some, hb, Bool.not_true, Bool.false_or] at this
    obtain ⟨e, he, h⟩ := Array.any_eq_true'.1 this
    simp only [Bool.and_eq_true, Bool.or_eq_true, beq_iff_eq] at h
    exact ⟨e, he, h.1, h.2⟩
  · intro i j oi oj d hi hj hij hoi hoj hd
    have := List.all_eq_true.1 (List.all_eq_true.1 h5 i (List.mem_range.2 hi)) j (List.mem_range.2 hj)
    simp only [hoi, hoj, hd, Bool.or_eq_true, beq_iff_eq, hij, false_or, Bool.and_eq_true, bne_iff_ne] at this
    refine ⟨this.1, fun hm => ?_⟩
    rcases this.2 with h | h
    · have h' : d ∉ oi.looksAt ops := by simpa using h
      exact absurd hm h'
    · split <;> simp_all
  · intro t o j ho ht hj
    have := List.all_eq_true.1 h6 t (List.mem_range.2 (lt_of_get ho))
    simp only [Bool.or_eq_true, decide_eq_true_eq] at this
    rcases this with h | h
    · omega
    · exact List.all_eq_true.1 h j (List.mem_range.2 hj)

section
variable {ops : Array Oper} {b : Array Nat} {n : Nat} {listed : Array Bool}

structure Closed (ops : Array Oper) (n : Nat) (listed : Array Bool) : Prop where
  size : listed.size = ops.size
  closed : ∀ j oj, ops[j]? = some oj → listed.getD j false = true → ∀ e ∈ oj.after, Region.binds .any e = true → listed.getD e.on false = true
  tail : ∀ t, n ≤ t → listed.getD t false = false

theorem get_lt {i : Nat} (h : listed.getD i false = true) : i < listed.size := by
  rcases Nat.lt_or_ge i listed.size with h' | h'
  · exact h'
  · simp [h'] at h

theorem Closed.bits (hc : Chk ops b n) (h : Closed ops n listed) : ∀ (i : Nat) (o : Oper), ops[i]? = some o → (∀ e ∈ o.after, Region.binds .any e = true → listed.getD e.on false = true) →
    ∀ j, j < n → bit b i j = true → listed.getD j false = true := by
  intro i
  induction i using Nat.strongRecOn with
  | _ i ih =>
    intro o ho hall j hj hb
    obtain ⟨e, he, hbd, heq⟩ := hc.bits i o j ho hj hb
    have hl := hall e he hbd
    rcases heq with heq | heq
    · rw [← heq]; exact hl
    · have hlt := hc.back i o ho e he hbd
      have hs : e.on < ops.size := by have := get_lt hl; rw [h.size] at this; exact this
      exact ih e.on hlt ops[e.on] (by simp [hs]) (h.closed e.on _ (by simp [hs]) hl) j hj heq

theorem Closed.set {i : Nat} (h : Closed ops n listed) (hi : i ∈ Region.ready .any ops listed) (hin : i < n) : Closed ops n (listed.setIfInBounds i true) := by
  obtain ⟨_, oi, hoi, hall⟩ := mem_ready.1 hi
  refine ⟨by simp [h.size], fun j oj hj hl e he hb => ?_, fun t ht => by rw [getD_set_ne false (by omega)]; exact h.tail t ht⟩
  by_cases hij : i = j
  · subst hij
    have : oj = oi := Option.some.inj (hj.symm.trans hoi)
    subst this
    exact getD_set_true (hall e he hb)
  · rw [getD_set_ne false hij] at hl
    exact getD_set_true (h.closed j oj hj hl e he hb)

theorem Closed.full (h : Closed ops n listed) (hn : n ≤ ops.size) (hf : ∀ j, j < n → listed.getD j false = true) : listed = (Array.replicate n true) ++ Array.replicate (ops.size - n) false := by
  apply Array.ext
  · simp [h.size]; omega
  · intro i h1 h2
    by_cases hi : i < n
    · have := hf i hi
      rw [Array.getElem_append_left (by simpa using hi)]
      simpa [h1] using this
    · have := h.tail i (by omega)
      rw [Array.getElem_append_right (by simp; omega)]
      simpa [h1] using this
end

def alloc? : K → Bool | .a _ _ => true | _ => false

structure InvA (κs : List K) (a0 : Act) (listed : Array Bool) (a : Act) (u : U) : Prop where
  size : a.tmps.size = a0.tmps.size
  defers : a.defers = a0.defers
  wrote : ∀ j o κ d, X.ops[j]? = some o → κs[j]? = some κ → listed.getD j false = true → o.dst = some d → d < a0.tmps.size → a.tmps[d]? = some (κ.val j u)
  kept : ∀ d, (∀ j o, X.ops[j]? = some o → listed.getD j false = true → o.dst ≠ some d) → a.tmps[d]? = a0.tmps[d]?

def safe (κs : List K) (listed : Array Bool) (u : U) (b : Nat) : Prop :=
  ∀ k κ, κs[k]? = some κ → alloc? κ = true → listed.getD k false = true → u k ≠ .pointer (some ⟨b, 0, none⟩)

structure InvW (κs : List K) (listed : Array Bool) (w : World) (u : U) : Prop where
  below : Grw X.w0.heap.size X.w0 w
  facts : ∀ j F, κs[j]? = some (K.r F) → listed.getD j false = true → F u (safe κs listed u) (u j) w
  allocs : ∀ j z ty, κs[j]? = some (K.a z ty) → listed.getD j false = true → ∃ b, u j = .pointer (some ⟨b, 0, none⟩) ∧ X.w0.heap.size ≤ b ∧ b < w.heap.size ∧
    ((∀ s c, κs[s]? = some (K.i j c) → listed.getD s false = false) → w.heap[b]? = some (.cells z ty (0, 0))) ∧
    (∀ s c, κs[s]? = some (K.i j c) → listed.getD s false = true → w.heap[b]? = some (.cells (c u) ty (0, 0)))
  apart : ∀ j k z ty z' ty', κs[j]? = some (K.a z ty) → κs[k]? = some (K.a z' ty') → listed.getD j false = true → listed.getD k false = true → j ≠ k → u j ≠ u k

def lexA (ops : List Oper) (κs : List K) (i : Nat) (A : U → Act) : U → Act :=
  match ops, κs with
  | o :: ops, κ :: κs => lexA ops κs (i + 1) (fun u => (A u).put o.dst (κ.val i u))
  | _, _ => A

theorem put_size (a : Act) (d : Option Tmp) (v : Value) : (a.put d v).tmps.size = a.tmps.size := by cases d <;> simp [Act.put]
theorem put_defers' (a : Act) (d : Option Tmp) (v : Value) : (a.put d v).defers = a.defers := by cases d <;> rfl
theorem put_here (a : Act) (d : Nat) (v : Value) (h : d < a.tmps.size) : (a.put (some d) v).tmps[d]? = some v := by simp [Act.put, h]
theorem put_far (a : Act) (d : Option Tmp) (v : Value) (t : Nat) (h : d ≠ some t) : (a.put d v).tmps[t]? = a.tmps[t]? := by
  cases d with
  | none => rfl
  | some d => exact Array.getElem?_setIfInBounds_ne (fun e => h (by rw [e]))

theorem lexA_size : ∀ (ops : List Oper) (κs : List K) (i : Nat) (A : U → Act) (u : U), (lexA ops κs i A u).tmps.size = (A u).tmps.size ∧ (lexA ops κs i A u).defers = (A u).defers
  | [], _, _, _, _ => ⟨by simp [lexA], by simp [lexA]⟩
  | _ :: _, [], _, _, _ => ⟨by simp [lexA], by simp [lexA]⟩
  | o :: ops, κ :: κs, i, A, u => by
    have := lexA_size ops κs (i + 1) (fun u => (A u).put o.dst (κ.val i u)) u
    simp only [put_size, put_defers'] at this
    simpa [lexA] using this

theorem lexA_kept : ∀ (ops : List Oper) (κs : List K) (i : Nat) (A : U → Act) (u : U) (d : Nat), (∀ (j : Nat) (o : Oper), ops[j]? = some o → o.dst ≠ some d) → (lexA ops κs i A u).tmps[d]? = (A u).tmps[d]?
  | [], _, _, _, _, _, _ => by simp [lexA]
  | _ :: _, [], _, _, _, _, _ => by simp [lexA]
  | o :: ops, κ :: κs, i, A, u, d, h => by
    have := lexA_kept ops κs (i + 1) (fun u => (A u).put o.dst (κ.val i u)) u d (fun j o' hj => h (j + 1) o' (by simpa using hj))
    rw [put_far _ _ _ _ (h 0 o rfl)] at this
    simpa [lexA] using this

theorem lexA_wrote : ∀ (ops : List Oper) (κs : List K) (i : Nat) (A : U → Act) (u : U) (d j : Nat) (o : Oper) (κ : K), ops[j]? = some o → κs[j]? = some κ → o.dst = some d → d < (A u).tmps.size →
    (∀ (k : Nat) (ok : Oper), k ≠ j → ops[k]? = some ok → ok.dst ≠ some d) → (lexA ops κs i A u).tmps[d]? = some (κ.val (i + j) u)
  | [], _, _, _, _, _, j, _, _, ho, _, _, _, _ => by simp at ho
  | _ :: _, [], _, _, _, _, j, _, _, _, hk, _, _, _ => by simp at hk
  | o :: ops, κ :: κs, i, A, u, d, j, oj, κj, ho, hk, hd, hs, hne => by
    cases j with
    | zero =>
      simp only [List.getElem?_cons_zero, Option.some.injEq] at ho hk
      subst ho; subst hk
      have := lexA_kept ops κs (i + 1) (fun u => (A u).put o.dst (κ.val i u)) u d (fun k ok hk => hne (k + 1) ok (by simp) (by simpa using hk))
      rw [hd, put_here _ _ _ hs] at this
      simpa [lexA, hd] using this
    | succ j =>
      have := lexA_wrote ops κs (i + 1) (fun u => (A u).put o.dst (κ.val i u)) u d j oj κj (by simpa using ho) (by simpa using hk) hd (by rw [put_size]; exact hs) (fun k ok hkj hok => hne (k + 1) ok (by omega) (by simpa using hok))
      simpa [lexA, Nat.add_assoc, Nat.add_comm 1 j] using this

section main
variable {X} {κs : List K} {a0 : Act} {listed : Array Bool} {a : Act} {w : World} {u : U} {i : Nat}

theorem unlisted_of_ready (h : i ∈ Region.ready .any X.ops listed) : listed.getD i false = false := getD_both (mem_ready.1 h).1

theorem looks (hc : Chk X.ops X.b X.n) (hh : Closed X.ops X.n listed) (ha : InvA X κs a0 listed a u) (hl : κs.length = X.n) (hr : i ∈ Region.ready .any X.ops listed) (hin : i < X.n)
    {oi : Oper} (hoi : X.ops[i]? = some oi) {t : Nat} (ht : t ∈ oi.looksAt X.ops) : (lexA (X.ops.toList.take i) (κs.take i) 0 (fun _ => a0) u).tmps[t]? = a.tmps[t]? := by
  have hlx := lexA_size (X.ops.toList.take i) (κs.take i) 0 (fun _ => a0) u
  have hun := unlisted_of_ready hr
  obtain ⟨_, o', ho', hall⟩ := mem_ready.1 hr
  have : o' = oi := Option.some.inj (ho'.symm.trans hoi)
  subst this
  by_cases hs : t < a0.tmps.size
  case neg =>
    have e1 := hlx.1
    have e2 := ha.size
    rw [Array.getElem?_eq_none (by omega), Array.getElem?_eq_none (by omega)]
  have hlt : ∀ k, listed.getD k false = true → k < X.n := fun k hk => by
    rcases Nat.lt_or_ge k X.n with h | h
    · exact h
    · rw [hh.tail k h] at hk; cases hk
  by_cases hw : ∃ j oj, j < X.n ∧ j ≠ i ∧ X.ops[j]? = some oj ∧ oj.dst = some t
  · obtain ⟨j, oj, hj, hji, hoj, hd⟩ := hw
    have huniq : ∀ k ok, k < X.n → k ≠ j → X.ops[k]? = some ok → ok.dst ≠ some t := fun k ok hk hkj hok => (hc.dst k j ok oj t hk hj hkj hok hoj hd).1
    have hord := (hc.dst i j o' oj t hin hj (Ne.symm hji) hoi hoj hd).2 ht
    have hκ : ∃ κ, κs[j]? = some κ := ⟨κs[j]'(by omega), by simp [hl, hj]⟩
    obtain ⟨κ, hκ⟩ := hκ
    by_cases hlt' : j < i
    · rw [if_pos hlt'] at hord
      have hjl := hh.bits hc i o' hoi hall j hj hord
      rw [ha.wrote j oj κ t hoj hκ hjl hd hs]
      have := lexA_wrote (X.ops.toList.take i) (κs.take i) 0 (fun _ => a0) u t j oj κ (by simp [hlt', hoj]) (by simp [hlt', hκ]) hd hs (fun k ok hkj hok => by
        have hki : k < i := by
          rcases Nat.lt_or_ge k i with h | h
          · exact h
          · simp [List.getElem?_take, show ¬ k < i by omega] at hok
        exact huniq k ok (by omega) hkj (by simpa [hki] using hok))
      simpa using this
    · rw [if_neg hlt'] at hord
      have hjl : listed.getD j false = false := by
        cases hjl : listed.getD j false with
        | false => rfl
        | true =>
          have := hh.bits hc j oj hoj (hh.closed j oj hoj hjl) i hin hord
          rw [hun] at this; cases this
      rw [ha.kept t (fun k ok hok hkl hkd => by
        have hkn := hlt k hkl
        by_cases hkj : k = j
        · subst hkj; rw [hjl] at hkl; cases hkl
        · exact huniq k ok hkn hkj hok hkd)]
      exact lexA_kept _ _ _ _ _ _ (fun k ok hok => by
        have hki : k < i := by
          rcases Nat.lt_or_ge k i with h | h
          · exact h
          · simp [List.getElem?_take, show ¬ k < i by omega] at hok
        exact huniq k ok (by omega) (by omega) (by simpa [hki] using hok))
  · rw [ha.kept t (fun k ok hok hkl hkd => hw ⟨k, ok, hlt k hkl, (fun e => by subst e; rw [hun] at hkl; cases hkl), hok, hkd⟩)]
    exact lexA_kept _ _ _ _ _ _ (fun k ok hok hkd => by
      have hki : k < i := by
        rcases Nat.lt_or_ge k i with h | h
        · exact h
        · simp [List.getElem?_take, show ¬ k < i by omega] at hok
      exact hw ⟨k, ok, by omega, by omega, by simpa [hki] using hok, hkd⟩)

theorem exec_same {o : Oper} (hs : ∀ cs b, o.op ≠ .select cs b) {a a' : Act} (h : ∀ t, t ∈ o.looksAt X.ops → a'.tmps[t]? = a.tmps[t]?) :
    execOp a'.eval o = execOp a.eval o ∧ Region.wanted o (yielded X.ops a'.tmps) = Region.wanted o (yielded X.ops a.tmps) := by
  refine ⟨execOp_congr o hs fun x hx => ?_, ?_⟩
  · cases x with
    | tmp t =>
      have := h t (List.mem_append_left _ (List.mem_filterMap.2 ⟨.tmp t, by simpa using hx, rfl⟩))
      simp [Act.eval, this]
    | _ => rfl
  · unfold Region.wanted
    cases hg : o.guard with
    | none => rfl
    | some gw =>
      obtain ⟨g, want⟩ := gw
      have hy : yielded X.ops a'.tmps g = yielded X.ops a.tmps g := by
        unfold yielded
        cases ht : (X.ops[g]?).bind (·.dst) with
        | none => rfl
        | some t =>
          have := h t (List.mem_append_right _ (by simp [hg, ht]))
          simp [this]
      simp only [hy]

theorem agree_of (hc : Chk X.ops X.b X.n) (hh : Closed X.ops X.n listed) (hun : listed.getD i false = false) (hin : i < X.n) {u' : U} (hu : ∀ k, k ≠ i → u' k = u k) {j : Nat} {oj : Oper}
    (hoj : X.ops[j]? = some oj) (hjl : listed.getD j false = true) : Agree (X.b.getD j 0) u' u := fun k hk => by
  refine hu k fun e => ?_
  subst e
  have := hh.bits hc j oj hoj (hh.closed j oj hoj hjl) k hin hk
  rw [hun] at this; cases this

theorem val_same (hc : Chk X.ops X.b X.n) (hh : Closed X.ops X.n listed) (hun : listed.getD i false = false) (hin : i < X.n) {u' : U} (hu : ∀ k, k ≠ i → u' k = u k) {j : Nat} {oj : Oper} {κ : K} {A : U → Act} {acc : List K}
    (hoj : X.ops[j]? = some oj) (hjl : listed.getD j false = true) (hob : Ob X j oj A acc κ) : κ.val j u' = κ.val j u := by
  have hne : j ≠ i := fun e => by subst e; rw [hun] at hjl; cases hjl
  cases κ with
  | q V => exact hob.1 u' u (agree_of hc hh hun hin hu hoj hjl)
  | r F => exact hu j hne
  | a z ty => exact hu j hne
  | i k c => rfl

theorem InvA.step (hc : Chk X.ops X.b X.n) (hh : Closed X.ops X.n listed) (ha : InvA X κs a0 listed a u) (hin : i < X.n) (hun : listed.getD i false = false) {oi : Oper} (hoi : X.ops[i]? = some oi) {κi : K} (hκi : κs[i]? = some κi)
    {u' : U} (hval : ∀ j oj κ, X.ops[j]? = some oj → κs[j]? = some κ → listed.getD j false = true → κ.val j u' = κ.val j u) : InvA X κs a0 (listed.setIfInBounds i true) (a.put oi.dst (κi.val i u')) u' := by
  have hlt : ∀ k, listed.getD k false = true → k < X.n := fun k hk => by
    rcases Nat.lt_or_ge k X.n with h | h
    · exact h
    · rw [hh.tail k h] at hk; cases hk
  refine ⟨by rw [put_size]; exact ha.size, by rw [put_defers']; exact ha.defers, ?_, ?_⟩
  · intro j o κ d ho hκ hjl hd hs
    by_cases hji : j = i
    · subst hji
      have : o = oi := Option.some.inj (ho.symm.trans hoi)
      subst this
      have : κ = κi := Option.some.inj (hκ.symm.trans hκi)
      subst this
      rw [hd]; exact put_here _ _ _ (by rw [ha.size]; exact hs)
    · rw [getD_set_ne false (Ne.symm hji)] at hjl
      rw [put_far _ _ _ _ (hc.dst i j oi o d hin (hlt j hjl) (Ne.symm hji) hoi ho hd).1, ha.wrote j o κ d ho hκ hjl hd hs, hval j o κ ho hκ hjl]
  · intro d hd
    have hil : (listed.setIfInBounds i true).getD i false = true := by
      have : i < listed.size := by rw [hh.size]; exact Nat.lt_of_lt_of_le hin hc.le
      simp [this]
    rw [put_far _ _ _ _ (hd i oi hoi hil)]
    exact ha.kept d fun j o ho hjl => hd j o ho (getD_set_true hjl)

theorem InvW.step (hc : Chk X.ops X.b X.n) (hh : Closed X.ops X.n listed) (hw : InvW X κs listed w u) (hin : i < X.n) (hun : listed.getD i false = false) {κi : K} (hκi : κs[i]? = some κi) (hni : ∀ k c, κi ≠ .i k c)
    (hob : ∀ j o κ, X.ops[j]? = some o → κs[j]? = some κ → ∃ A acc, Ob X j o A acc κ) (hl : κs.length = X.n)
    {u' : U} (hu : ∀ k, k ≠ i → u' k = u k) {w' : World} (hb : Grw w.heap.size w w')
    (hf : ∀ F, κi = .r F → F u' (safe κs (listed.setIfInBounds i true) u') (u' i) w')
    (hal : ∀ z ty, κi = .a z ty → u' i = .pointer (some ⟨w.heap.size, 0, none⟩) ∧ w.heap.size < w'.heap.size ∧ w'.heap[w.heap.size]? = some (.cells z ty (0, 0))) : InvW X κs (listed.setIfInBounds i true) w' u' := by
  have hop : ∀ (j : Nat) (κ : K), κs[j]? = some κ → ∃ o, X.ops[j]? = some o := fun j κ hj => by
    have : j < X.n := by
      rcases Nat.lt_or_ge j X.n with h | h
      · exact h
      · rw [List.getElem?_eq_none (by omega)] at hj; cases hj
    have : j < X.ops.size := Nat.lt_of_lt_of_le this hc.le
    exact ⟨X.ops[j], by simp [this]⟩
  have hsub : ∀ j, j ≠ i → (listed.setIfInBounds i true).getD j false = listed.getD j false := fun j hj => getD_set_ne false (Ne.symm hj)
  have hne : ∀ j, listed.getD j false = true → j ≠ i := fun j hj e => by subst e; rw [hun] at hj; cases hj
  have hsafe : ∀ b, b < w.heap.size → safe κs listed u b → safe κs (listed.setIfInBounds i true) u' b := fun b hbl hs k κ hk hak hkl => by
    by_cases hki : k = i
    · subst hki
      have : κ = κi := Option.some.inj (hk.symm.trans hκi)
      subst this
      cases κ with
      | a z ty =>
        rw [(hal z ty rfl).1]
        intro e
        simp only [Value.pointer.injEq, Option.some.injEq, Addr.mk.injEq] at e
        omega
      | _ => cases hak
    · rw [hu k hki]; exact hs k κ hk hak (by rwa [hsub k hki] at hkl)
  have hbase : Grw X.w0.heap.size X.w0 w' := hw.below.trans (hb.mono hw.below.size)
  refine ⟨hbase, ?_, ?_, ?_⟩
  · intro j F hj hjl
    by_cases hji : j = i
    · subst hji
      exact hf F (Option.some.inj (hκi.symm.trans hj))
    · rw [hsub j hji] at hjl
      obtain ⟨oj, hoj⟩ := hop j _ hj
      obtain ⟨A, acc, hO⟩ := hob j oj _ hoj hj
      rw [hu j hji, hO.1 u' u (agree_of hc hh hun hin hu hoj hjl)]
      exact hO.2.1 u (u j) _ _ w w' hb.size (fun b hbl hs => ⟨hsafe b hbl hs, hb.block b hbl⟩) (hw.facts j F hj hjl)
  · intro j z ty hj hjl
    by_cases hji : j = i
    · subst hji
      have : κi = .a z ty := Option.some.inj (hκi.symm.trans hj)
      obtain ⟨h1, h2, h3⟩ := hal z ty this
      refine ⟨w.heap.size, h1, hw.below.size, h2, fun _ => h3, fun s c hs hsl => ?_⟩
      have hsi : s ≠ j := fun e => by subst e; rw [hj] at hs; cases hs
      rw [hsub s hsi] at hsl
      obtain ⟨os, hos⟩ := hop s _ hs
      obtain ⟨A, acc, hO⟩ := hob s os _ hos hs
      have := hh.bits hc s os hos (hh.closed s os hos hsl) j hin hO.2.1
      rw [hun] at this; cases this
    · rw [hsub j hji] at hjl
      obtain ⟨b, h1, h2, h3, h4, h5⟩ := hw.allocs j z ty hj hjl
      refine ⟨b, by rw [hu j hji]; exact h1, h2, Nat.lt_of_lt_of_le h3 hb.size, fun hs => ?_, fun s c hs hsl => ?_⟩
      · rw [hb.block b h3]
        exact h4 fun s c hsc => by
          have := hs s c hsc
          have hsi : s ≠ i := fun e => by subst e; exact hni j c (Option.some.inj (hκi.symm.trans hsc))
          rwa [hsub s hsi] at this
      · have hsi : s ≠ i := fun e => by subst e; exact hni j c (Option.some.inj (hκi.symm.trans hs))
        rw [hsub s hsi] at hsl
        rw [hb.block b h3]
        obtain ⟨os, hos⟩ := hop s _ hs
        obtain ⟨A, acc, hO⟩ := hob s os _ hos hs
        rw [hO.2.2.2.2.2.1 u' u (agree_of hc hh hun hin hu hos hsl)]
        exact h5 s c hs hsl
  · intro j k z ty z' ty' hj hk hjl hkl hjk
    have far : ∀ j z ty, κs[j]? = some (K.a z ty) → listed.getD j false = true → ∀ z' ty', κi = .a z' ty' → u j ≠ u' i := fun j z ty hj hjl z' ty' hκ => by
      obtain ⟨b, h1, _, h3, _⟩ := hw.allocs j z ty hj hjl
      rw [h1, (hal z' ty' hκ).1]
      intro e
      simp only [Value.pointer.injEq, Option.some.injEq, Addr.mk.injEq] at e
      omega
    by_cases hji : j = i
    · subst hji
      have hki : k ≠ j := Ne.symm hjk
      rw [hsub k hki] at hkl
      rw [hu k hki]
      exact Ne.symm (far k z' ty' hk hkl z ty (Option.some.inj (hκi.symm.trans hj)))
    · rw [hsub j hji] at hjl
      by_cases hki : k = i
      · subst hki
        rw [hu j hji]
        exact far j z ty hj hjl z' ty' (Option.some.inj (hκi.symm.trans hk))
      · rw [hsub k hki] at hkl
        rw [hu j hji, hu k hki]
        exact hw.apart j k z ty z' ty' hj hk hjl hkl hjk

theorem init_one (hob : ∀ j o κ, X.ops[j]? = some o → κs[j]? = some κ → Ob X j o (lexA (X.ops.toList.take j) (κs.take j) 0 (fun _ => a0)) (κs.take j) κ) (hop : ∀ (j : Nat) (κ : K), κs[j]? = some κ → ∃ o, X.ops[j]? = some o)
    {s s' k : Nat} {c c' : U → Array Value} (hs : κs[s]? = some (K.i k c)) (hs' : κs[s']? = some (K.i k c')) : s = s' := by
  have key : ∀ (s s' : Nat) (c c' : U → Array Value), κs[s]? = some (K.i k c) → κs[s']? = some (K.i k c') → ¬ s < s' := fun s s' c c' hs hs' hlt => by
    obtain ⟨o, ho⟩ := hop s' _ hs'
    have hO := hob s' o _ ho hs'
    exact hO.2.2.2.2.1 c (List.mem_of_getElem? (i := s) (by rw [List.getElem?_take, if_pos hlt]; exact hs))
  have h1 := key s s' c c' hs hs'
  have h2 := key s' s c' c hs' hs
  omega

theorem InvW.stepInit (hc : Chk X.ops X.b X.n) (hh : Closed X.ops X.n listed) (hw : InvW X κs listed w u) (hin : i < X.n) (hun : listed.getD i false = false) {k : Nat} {c : U → Array Value} (hκi : κs[i]? = some (K.i k c))
    (huni : ∀ (s : Nat) (c' : U → Array Value), κs[s]? = some (K.i k c') → s = i) (hobx : ∀ (j : Nat) (F : U → (Nat → Prop) → Value → World → Prop), κs[j]? = some (K.r F) → ∀ u v, Mono (fun S w => F u S v w))
    {b : Nat} (hkb : u k = .pointer (some ⟨b, 0, none⟩)) {z : Array Value} {ty : TypeId} (hk : κs[k]? = some (K.a z ty)) (hkl : listed.getD k false = true) {w' : World} (hst : Stored w b w' (c u) ty) (hbb : X.w0.heap.size ≤ b) :
    InvW X κs (listed.setIfInBounds i true) w' u := by
  have hsub : ∀ j, j ≠ i → (listed.setIfInBounds i true).getD j false = listed.getD j false := fun j hj => getD_set_ne false (Ne.symm hj)
  have hil : (listed.setIfInBounds i true).getD i false = true := by
    have : i < listed.size := by rw [hh.size]; exact Nat.lt_of_lt_of_le hin hc.le
    simp [this]
  refine ⟨⟨hst.os.trans hw.below.os, hst.tape.trans hw.below.tape, ⟨hst.output.1.trans hw.below.output.1, Nat.le_trans hw.below.output.2 hst.output.2⟩, by rw [hst.size]; exact hw.below.size, fun q hq => by rw [hst.far q (by omega)]; exact hw.below.block q hq⟩, ?_, ?_, ?_⟩
  · intro j F hj hjl
    have hji : j ≠ i := fun e => by subst e; rw [hκi] at hj; cases hj
    rw [hsub j hji] at hjl
    exact hobx j F hj u (u j) _ _ w w' (Nat.le_of_eq hst.size.symm) (fun q hq hs => ⟨fun k' κ hk' hak hkl' => by
        by_cases hki : k' = i
        · subst hki; rw [hκi] at hk'; cases hk'; cases hak
        · exact hs k' κ hk' hak (by rwa [hsub k' hki] at hkl'), hst.far q (fun e => hs k _ hk rfl hkl (by rw [hkb, e]))⟩) (hw.facts j F hj hjl)
  · intro j z' ty' hj hjl
    have hji : j ≠ i := fun e => by subst e; rw [hκi] at hj; cases hj
    rw [hsub j hji] at hjl
    by_cases hjk : j = k
    · subst hjk
      rw [hk] at hj
      cases hj
      obtain ⟨b', h1, h2, h3, _⟩ := hw.allocs j z ty hk hkl
      have hbe : b' = b := by rw [hkb] at h1; simp only [Value.pointer.injEq, Option.some.injEq, Addr.mk.injEq] at h1; exact h1.1.symm
      subst hbe
      refine ⟨b', h1, h2, by rw [hst.size]; exact h3, fun hs => ?_, fun s c' hs hsl => ?_⟩
      · have := hs i c hκi
        rw [hil] at this; cases this
      · have := huni s c' hs
        subst this
        rw [hκi] at hs
        cases hs
        exact hst.here
    · obtain ⟨b', h1, h2, h3, h4, h5⟩ := hw.allocs j z' ty' hj hjl
      have hne : b' ≠ b := fun e => by
        subst e
        exact hw.apart j k z' ty' z ty hj hk hjl hkl hjk (by rw [h1, hkb])
      refine ⟨b', h1, h2, by rw [hst.size]; exact h3, fun hs => ?_, fun s c' hs hsl => ?_⟩
      · rw [hst.far b' hne]
        exact h4 fun s c' hsc => by
          have hsi : s ≠ i := fun e => by subst e; rw [hκi] at hsc; cases hsc; exact hjk rfl
          have := hs s c' hsc
          rwa [hsub s hsi] at this
      · have hsi : s ≠ i := fun e => by subst e; rw [hκi] at hs; cases hs; exact hjk rfl
        rw [hsub s hsi] at hsl
        rw [hst.far b' hne]
        exact h5 s c' hs hsl
  · intro j k' z1 ty1 z2 ty2 hj hk' hjl hkl' hne
    have hji : j ≠ i := fun e => by subst e; rw [hκi] at hj; cases hj
    have hki : k' ≠ i := fun e => by subst e; rw [hκi] at hk'; cases hk'
    rw [hsub j hji] at hjl
    rw [hsub k' hki] at hkl'
    exact hw.apart j k' z1 ty1 z2 ty2 hj hk' hjl hkl' hne

def unl (listed : Array Bool) : Nat → Nat
  | 0 => 0
  | n + 1 => unl listed n + if listed.getD n false = true then 0 else 1

theorem unl_set (h : listed.getD i false = false) (hs : i < listed.size) : ∀ n, unl (listed.setIfInBounds i true) n + (if i < n then 1 else 0) = unl listed n
  | 0 => by simp [unl]
  | n + 1 => by
    have ih := unl_set h hs n
    simp only [unl]
    by_cases hin : i = n
    · subst hin
      rw [if_neg (Nat.lt_irrefl _)] at ih
      have : (listed.setIfInBounds i true).getD i false = true := by simp [hs]
      rw [this, h]
      simp
      omega
    · rw [getD_set_ne false hin]
      by_cases hlt : i < n
      · have h1 : i < n + 1 := by omega
        simp only [hlt, h1, if_true] at ih ⊢; omega
      · have h1 : ¬ i < n + 1 := by omega
        simp only [hlt, h1, if_false] at ih ⊢; omega

theorem unl_zero : ∀ n, unl listed n = 0 → ∀ j, j < n → listed.getD j false = true
  | 0, _, _, hj => by omega
  | n + 1, h, j, hj => by
    simp only [unl] at h
    by_cases hjn : j = n
    · subst hjn
      cases hl : listed.getD j false with
      | true => rfl
      | false => rw [hl] at h; simp at h
    · exact unl_zero n (by omega) j (by omega)

theorem unl_pos : ∀ n, unl listed n ≠ 0 → ∃ j, j < n ∧ listed.getD j false = false ∧ ∀ k, k < j → listed.getD k false = true
  | 0, h => absurd rfl h
  | n + 1, h => by
    by_cases h0 : unl listed n = 0
    · refine ⟨n, by omega, ?_, unl_zero n h0⟩
      cases hl : listed.getD n false with
      | false => rfl
      | true => simp [unl, h0, hl] at h
    · obtain ⟨j, hj, h1, h2⟩ := unl_pos n h0
      exact ⟨j, by omega, h1, h2⟩

theorem unl_new (m : Nat) : ∀ n, unl (Array.replicate m false) n = n
  | 0 => rfl
  | n + 1 => by simp only [unl, unl_new m n, getD_replicate_false]; simp

structure All (X : Ctx) (κs : List K) (a0 : Act) : Prop where
  len : κs.length = X.n
  ob : ∀ j o κ, X.ops[j]? = some o → κs[j]? = some κ → Ob X j o (lexA (X.ops.toList.take j) (κs.take j) 0 (fun _ => a0)) (κs.take j) κ
  fin : ∀ u w S, Fini X κs u S w → wpList X.P X.ops X.Q (X.ops.toList.drop X.n) (lexA (X.ops.toList.take X.n) κs 0 (fun _ => a0) u) w

theorem All.op (hc : Chk X.ops X.b X.n) (h : All X κs a0) (j : Nat) (κ : K) (hj : κs[j]? = some κ) : ∃ o, X.ops[j]? = some o := by
  have : j < X.n := by
    rcases Nat.lt_or_ge j X.n with h' | h'
    · exact h'
    · rw [List.getElem?_eq_none (by rw [h.len]; exact h')] at hj; cases hj
  have : j < X.ops.size := Nat.lt_of_lt_of_le this hc.le
  exact ⟨X.ops[j], by simp [this]⟩

theorem Safe.of (hw : InvW X κs listed w u) : Safe X.w0 w (safe κs listed u) := fun b hb k κ hk hak hkl => by
  cases κ with
  | a z ty =>
    obtain ⟨b', h1, h2, h3, _⟩ := hw.allocs k z ty hk hkl
    rw [h1]
    intro e
    simp only [Value.pointer.injEq, Option.some.injEq, Addr.mk.injEq] at e
    omega
  | _ => cases hak

theorem step (hc : Chk X.ops X.b X.n) (h : All X κs a0) (hh : Closed X.ops X.n listed) (ha : InvA X κs a0 listed a u) (hw : InvW X κs listed w u) (hr : i ∈ Region.ready .any X.ops listed) (hin : i < X.n)
    {K' : Act → World → Prop} (hK : ∀ a' w' u', InvA X κs a0 (listed.setIfInBounds i true) a' u' → InvW X κs (listed.setIfInBounds i true) w' u' → K' a' w') : wpOp X.P X.ops X.Q i K' a w := by
  have hun := unlisted_of_ready hr
  obtain ⟨_, oi, hoi, hall⟩ := mem_ready.1 hr
  obtain ⟨κ, hκ⟩ : ∃ κ, κs[i]? = some κ := ⟨κs[i]'(by rw [h.len]; exact hin), by simp [h.len, hin]⟩
  have hO := h.ob i oi κ hoi hκ
  have hsel : ∀ cs b, oi.op ≠ .select cs b := fun cs b => Region.noSelect_spec hc.sel i oi cs b hoi
  obtain ⟨he, hwd⟩ := exec_same (X := X) hsel (fun t ht => looks hc hh ha h.len hr hin hoi ht)
  have hfacts : Facts (κs.take i) (X.b.getD i 0) u (safe κs listed u) w := fun j F hj hb => by
    have hji : j < i := by
      rcases Nat.lt_or_ge j i with h' | h'
      · exact h'
      · simp [List.getElem?_take, show ¬ j < i by omega] at hj
    exact hw.facts j F (by simpa [hji] using hj) (hh.bits hc i oi hoi hall j (by omega) hb)
  have hob' : ∀ j o κ, X.ops[j]? = some o → κs[j]? = some κ → ∃ A acc, Ob X j o A acc κ := fun j o κ ho hk => ⟨_, _, h.ob j o κ ho hk⟩
  have hvs : ∀ u', (∀ k, k ≠ i → u' k = u k) → ∀ j oj κ, X.ops[j]? = some oj → κs[j]? = some κ → listed.getD j false = true → κ.val j u' = κ.val j u := fun u' hu j oj κ hoj hκj hjl =>
    val_same hc hh hun hin hu hoj hjl (h.ob j oj κ hoj hκj)
  have hupd : ∀ v, ∃ u' : U, (∀ k, k ≠ i → u' k = u k) ∧ u' i = v := fun v => ⟨fun k => if k = i then v else u k, fun k hk => by simp [hk], by simp⟩
  unfold wpOp
  simp only [hoi]
  cases κ with
  | q V =>
    have hq := hO.2 u w _ hw.below hfacts
    have next : ∀ w', Grw w.heap.size w w' → K' (a.put oi.dst (V u)) w' := fun w' hb =>
      hK _ _ u (ha.step hc hh hin hun hoi hκ (fun _ _ _ _ _ _ => rfl)) (hw.step hc hh hin hun hκ (fun _ _ e => by cases e) hob' h.len (fun _ _ => rfl) hb (fun _ e => by cases e) (fun _ _ e => by cases e))
    rw [hwd] at hq
    split
    · rename_i hwt
      rw [if_pos hwt] at hq
      left
      unfold Oper.wp
      unfold Oper.quietAt at hq
      rw [he] at hq
      generalize (execOp a.eval oi).run X.P w = r at hq ⊢
      cases r with
      | ok nx w' =>
        cases nx <;> simp only [Oper.quietUpon] at hq <;> simp only [Oper.upon]
        case value x => obtain ⟨e1, e2⟩ := hq; rw [e1, e2]; exact next w (Grw.refl _ _)
        case skip => obtain ⟨e1, e2⟩ := hq; rw [e1, ← e2]; exact next w (Grw.refl _ _)
        case enter f args =>
          obtain ⟨e1, hcal⟩ := hq
          rw [e1]
          exact hcal.mono fun e w'' ⟨h1, h2⟩ => by subst h1; exact next w'' h2
      | halt x w' => simp only [Oper.quietUpon] at hq
    · rename_i hwt
      rw [if_neg hwt] at hq
      rw [← hq]; exact next w (Grw.refl _ _)
  | r F =>
    obtain ⟨hwt, hrel⟩ := hO.2.2 u w _ hw.below (Safe.of hw) hfacts
    rw [hwd] at hwt
    rw [if_pos hwt]
    left
    unfold Oper.wp
    rw [he] at hrel
    have next : ∀ v w', Grw w.heap.size w w' → F u (safe κs listed u) v w' → K' (a.put oi.dst v) w' := fun v w' hb hF => by
      obtain ⟨u', hu, hui⟩ := hupd v
      have hstep := ha.step hc hh hin hun hoi hκ (hvs u' hu)
      have hval : (K.r F).val i u' = v := hui
      rw [hval] at hstep
      refine hK _ _ u' hstep (hw.step hc hh hin hun hκ (fun _ _ e => by cases e) hob' h.len hu hb (fun F' e => ?_) (fun _ _ e => by cases e))
      cases e
      rw [hui, hO.1 u' u (fun k hk => hu k (fun e => by
        subst e
        have := hh.bits hc k oi hoi hall k hin hk
        rw [hun] at this; cases this))]
      refine hO.2.1 u v _ _ w' w' (Nat.le_refl _) (fun b _ hs => ⟨fun k κ hk hak hkl => ?_, rfl⟩) hF
      by_cases hki : k = i
      · subst hki; rw [hκ] at hk; cases hk; cases hak
      · rw [hu k hki]; exact hs k κ hk hak (by rwa [getD_set_ne false (Ne.symm hki)] at hkl)
    generalize (execOp a.eval oi).run X.P w = r at hrel ⊢
    cases r with
    | ok nx w' =>
      cases nx <;> simp only [relUpon] at hrel <;> simp only [Oper.upon]
      case value x => exact next x w' hrel.1 hrel.2
      case enter f args =>
        obtain ⟨e1, hcal⟩ := hrel
        rw [e1]
        exact hcal.mono fun e w'' ⟨v, h1, h2, h3⟩ => by subst h1; exact next v w'' h2 h3
    | halt x w' => simp only [relUpon] at hrel
  | a z ty =>
    obtain ⟨hg, hrun⟩ := hO
    have hwt : Region.wanted oi (yielded X.ops a.tmps) = true := by unfold Region.wanted; rw [hg]
    rw [if_pos hwt]
    left
    unfold Oper.wp
    have := hrun u w
    rw [he] at this
    rw [this]
    simp only [Oper.upon]
    obtain ⟨u', hu, hui⟩ := hupd (.pointer (some ⟨w.heap.size, 0, none⟩))
    have hstep := ha.step hc hh hin hun hoi hκ (hvs u' hu)
    have hval : (K.a z ty).val i u' = .pointer (some ⟨w.heap.size, 0, none⟩) := hui
    rw [hval] at hstep
    refine hK _ _ u' hstep (hw.step hc hh hin hun hκ (fun _ _ e => by cases e) hob' h.len hu ((Grw.refl _ _).alloc (Nat.le_refl _) _) (fun _ e => by cases e) (fun z' ty' e => ?_))
    cases e
    refine ⟨hui, by simp, ?_⟩
    show (w.heap.push _)[w.heap.size]? = _
    simp
  | i k c =>
    obtain ⟨hki, hbk, hg, hd, _, _, z, ty, hz, hrun⟩ := hO
    have hk : κs[k]? = some (K.a z ty) := by simpa [hki] using hz
    have hkl := hh.bits hc i oi hoi hall k (by omega) hbk
    have huni : ∀ s c', κs[s]? = some (K.i k c') → s = i := fun s c' hs => init_one h.ob (h.op hc) hs hκ
    have hwt : Region.wanted oi (yielded X.ops a.tmps) = true := by unfold Region.wanted; rw [hg]
    rw [if_pos hwt]
    left
    unfold Oper.wp
    obtain ⟨b, h1, h2, h3, h4, _⟩ := hw.allocs k z ty hk hkl
    obtain ⟨w', hr', hst⟩ := hrun u w b hw.below h2 h1 (h4 fun s c' hs => by rw [huni s c' hs]; exact hun)
    rw [he] at hr'
    rw [hr']
    simp only [Oper.upon]
    have hstep := ha.step hc hh hin hun hoi hκ (u' := u) (fun _ _ _ _ _ _ => rfl)
    exact hK _ _ u hstep (hw.stepInit hc hh hin hun hκ huni (fun j F hj => by
      obtain ⟨o, ho⟩ := h.op hc j _ hj
      exact (h.ob j o _ ho hj).2.1) h1 hk hkl hst h2)

end main

end Free
end Go
namespace Go
open Go.RowKit
namespace Free
section steps
variable {P : Program} {l : Array Oper} {b : Array Nat} {n : Nat} {w0 : World} {Q : Exit → Act → World → Prop} {o : Oper} {ops : List Oper} {i : Nat} {A : U → Act} {acc : List K}

theorem cells_of {w w' : World} (h : Grw w.heap.size w w') : (∀ b o, b < w.heap.size → w'.cell? ⟨b, o, none⟩ = w.cell? ⟨b, o, none⟩) ∧ (∀ b o, b < w.heap.size → w'.frozen? ⟨b, o, none⟩ = w.frozen? ⟨b, o, none⟩) :=
  ⟨fun b o h' => h.cell (p := ⟨b, o, none⟩) h', fun b o h' => h.frozen (p := ⟨b, o, none⟩) h'⟩

theorem E.q (hg : o.guard = none) (h : ∃ v : Value, (∀ u w', (∀ b o, b < w0.heap.size → w'.cell? ⟨b, o, none⟩ = w0.cell? ⟨b, o, none⟩) → Grw w0.heap.size w0 w' → o.quietAt P (A u) (fun w'' => Grw w'.heap.size w' w'') w' v) ∧
      E ⟨P, l, b, n, w0, Q⟩ ops (i + 1) (fun u => (A u).put o.dst v) (acc ++ [.q fun _ => v])) : E ⟨P, l, b, n, w0, Q⟩ (o :: ops) i A acc := by
  obtain ⟨v, h, κs, hK⟩ := h
  exact ⟨.q (fun _ => v) :: κs, ⟨fun _ _ _ => rfl, fun u w S hb _ => by rw [if_pos (by unfold Region.wanted; rw [hg])]; exact h u w (cells_of hb).1 hb⟩, hK⟩

theorem E.new {z : Array Value} {ty : TypeId} (hg : o.guard = none) (ho : o.op = .alloc ty) (hz : (P.info? ty).map (fun i => i.zero.map (·.cells)) = some (some z))
    (hK : E ⟨P, l, b, n, w0, Q⟩ ops (i + 1) (fun u => (A u).put o.dst (u i)) (acc ++ [.a z ty])) : E ⟨P, l, b, n, w0, Q⟩ (o :: ops) i A acc := by
  obtain ⟨κs, hK⟩ := hK
  refine ⟨.a z ty :: κs, ⟨hg, fun u w => ?_⟩, hK⟩
  obtain ⟨dst, op, type, pos, after, guard⟩ := o
  simp only at ho
  subst ho
  cases hi : P.info? ty with
  | none => rw [hi] at hz; cases hz
  | some inf =>
    rw [hi] at hz
    simp only [Option.map_some, Option.some.injEq] at hz
    cases hzz : inf.zero with
    | none => rw [hzz] at hz; cases hz
    | some zv =>
      rw [hzz] at hz
      simp only [Option.map_some, Option.some.injEq] at hz
      subst hz
      simp [execOp, Instr.alloc, zeroValue, typeInfo, hi, hzz, newVar, newRow, go_sem]

def noInit (acc : List K) (k : Nat) : Bool := acc.all fun κ => match κ with | .i k' _ => k' != k | _ => true
theorem Grow.alloc {a w : World} (h : Grw a.heap.size a w) (o : Obj) : Grw a.heap.size a (w.alloc o) := h.alloc h.size o
theorem Grow.drew {a w : World} (h : Grw a.heap.size a w) : Grw a.heap.size a w.drew := h.drew
theorem Grow.setCell {a w : World} (h : Grw a.heap.size a w) {p : Addr} (hp : a.heap.size ≤ p.block) (u : Value) : Grw a.heap.size a (w.setCell p u) := h.setCell hp u
theorem Grow.trans {a w w' : World} (h : Grw a.heap.size a w) (k : Grw w.heap.size w w') : Grw a.heap.size a w' := Grw.trans h (k.mono h.size)
theorem Calls.grow {P : Program} {f : FuncId} {args : Array Value} {w : World} {v : Value} (h : Calls P f args w fun e w' => e = .returned v ∧ w = w') :
    Calls P f args w fun e w' => e = .returned v ∧ Grw w.heap.size w w' := h.mono fun _ _ ⟨h1, h2⟩ => ⟨h1, h2 ▸ Grw.refl _ _⟩

theorem E.nil (h : ∀ u w S, Fini ⟨P, l, b, n, w0, Q⟩ acc u S w → wpList P l Q (l.toList.drop n) (A u) w) : E ⟨P, l, b, n, w0, Q⟩ [] i A acc := ⟨[], h⟩
end steps
end Free
end Go
end
