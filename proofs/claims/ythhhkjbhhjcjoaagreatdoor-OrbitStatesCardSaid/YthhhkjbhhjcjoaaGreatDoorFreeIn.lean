/- The law on drawn regions (Free), met in a round of a range over a function. -/
import Derived.Test.YthhhkjbhhjcjoaaGreatDoorFree
import Derived.RangeFuncNested
import Derived.RangeFuncBound
import Derived.RangeFuncCalls
import Derived.RangeFuncLeaves
import Derived.RangeFuncFrom
import Derived.OwnWalkIn
import Derived.TacticsInMore
import Derived.LoopNIn
import Derived.LoopIn
set_option linter.unusedSimpArgs false
set_option linter.unusedVariables false
namespace Go
open Go.RowKit
namespace Free
theorem region_any {P : Program} {Q : Exit → Act → World → Prop} {a : Act} {w : World} {l : List Oper} (n : Nat) (b : Array Nat) (hc : chk l.toArray b n = true)
    (h : E { P := P, ops := l.toArray, b := b, n := n, w0 := w, Q := Q } (l.take n) 0 (fun _ => a) []) : wpAny P .any l.toArray Q l.toArray.size (Array.replicate l.toArray.size false) a { w with drawn := w.drawn + 1 } := by
  obtain ⟨κs, h⟩ := h
  obtain ⟨h1, h2, h3⟩ := walk_split _ _ _ _ _ _ h
  have hc' := Chk.of hc
  have hn : n ≤ l.length := by simpa using hc'.le
  have hlen : κs.length = n := by rw [h1]; simp; omega
  have hall : All { P := P, ops := l.toArray, b := b, n := n, w0 := w, Q := Q } κs a := by
    refine ⟨hlen, fun j o κ ho hκ => ?_, fun u w' S hE => by simpa using h3 u w' S (by simpa using hE)⟩
    have hj : j < n := by
      rcases Nat.lt_or_ge j n with h' | h'
      · exact h'
      · rw [List.getElem?_eq_none (by omega)] at hκ; cases hκ
    have := h2 j o κ (by simpa [hj] using ho) hκ
    simpa [List.take_take, Nat.min_eq_left (Nat.le_of_lt hj)] using this
  have := any_of_inv (X := { P := P, ops := l.toArray, b := b, n := n, w0 := w, Q := Q }) hc' hall n (Array.replicate l.toArray.size false) a { w with drawn := w.drawn + 1 } (fun _ => undef)
    ⟨by simp, fun j oj _ hl => (by rw [getD_replicate_false] at hl; cases hl), fun t _ => getD_replicate_false _ _⟩
    ⟨rfl, rfl, fun j o κ d _ _ hl => (by rw [getD_replicate_false] at hl; cases hl), fun _ _ => rfl⟩
    ⟨⟨rfl, rfl, rfl, Nat.le_refl _, fun _ _ => rfl⟩, fun j F _ hl => (by rw [getD_replicate_false] at hl; cases hl), fun j z ty _ hl => (by rw [getD_replicate_false] at hl; cases hl), fun j k z ty z' ty' _ _ hl => (by rw [getD_replicate_false] at hl; cases hl)⟩
    (unl_new _ n)
  rw [show n + (l.toArray.size - n) = l.toArray.size by simp; omega] at this
  exact this

theorem rows_wide {n : Nat} {P : Program} {row : String} {args : Array Value} {w : World} {R : Value → World → Prop} (h : Rows P row args w R) : RowsIn Fence.wide n P row args w R :=
  fun c cs _ => let ⟨v, w', r, s⟩ := h c cs; ⟨v, w', r, stepsIn_wide.2 s⟩

theorem op_in {lp n : Nat} {P : Program} {o : Oper} {a : Act} {w : World} {K : Act → World → Prop} {Q : Exit → Act → World → Prop} (hd : ∀ c, o.op ≠ .defer c) (h : o.wp P a w K Q) :
    o.wpIn (Fence.wide.inRound lp) n P a w K Q := by
  refine ⟨fun _ _ => trivial, ?_⟩
  rw [show (Fence.wide.inRound lp).round = some lp from rfl, Oper.semAt_some lp a.eval o hd]
  unfold Oper.wp at h
  generalize (execOp a.eval o).run P w = r at *
  cases r with
  | ok n w' =>
    cases n <;> simp only [Oper.upon, Oper.uponIn] at h ⊢ <;>
      first
      | exact h
      | exact ⟨fun h' => (by cases h'), ((callsIn_wide.2 h).inRound lp).mono fun e w'' h => (by cases e <;> exact h)⟩
      | exact ⟨fun h' => (by cases h'), rows_wide h⟩
  | halt x w' =>
    cases x <;> simp only [Oper.upon, Oper.uponIn] at h ⊢ <;> exact h

def noDefer (o : Oper) : Bool := match o.op with | .defer _ => false | _ => true
theorem noDefer_spec {o : Oper} (h : noDefer o = true) : ∀ c, o.op ≠ .defer c := fun c e => by simp [noDefer, e] at h

theorem any_in {lp n : Nat} {P : Program} {ops : Array Oper} {Q : Exit → Act → World → Prop} (hd : ops.all noDefer = true) (hQ : ¬ LetsOut Q) : ∀ (f : Nat) (listed : Array Bool) (a : Act) (w : World),
    wpAny P .any ops Q f listed a w → wpAnyIn (Fence.wide.inRound lp) n P .any ops Q f listed a w
  | 0, _, _, _, h => h
  | f + 1, listed, a, w, h => by
    refine ⟨h.1, fun i hi => ?_⟩
    have hi' := h.2 i hi
    unfold wpOp at hi'
    unfold wpOpIn
    cases ho : ops[i]? with
    | none => rw [ho] at hi'; exact any_in hd hQ f _ a w hi'
    | some o =>
      rw [ho] at hi'
      simp only at hi' ⊢
      split at hi'
      · rename_i hw
        rw [if_pos hw]
        rcases hi' with h' | ⟨_, h'⟩
        · have hmem : o ∈ ops := Array.mem_of_getElem? ho
          exact op_in (noDefer_spec (Array.all_eq_true'.1 hd o hmem)) (Oper.wp_mono (fun a w h => any_in hd hQ f _ a w h) h')
        · exact absurd h' hQ
      · rename_i hw
        rw [if_neg hw]
        exact ⟨fun _ _ => trivial, any_in hd hQ f _ _ w hi'⟩

theorem wpIn_region {P : Program} {id lp m : Nat} {Q : Exit → Act → World → Prop} {a : Act} {w : World} {l : List Oper} (n : Nat) (b : Array Nat) (hm : P.follows .mixedOrders = true) (hc : (chk l.toArray b n && l.toArray.all noDefer) = true) (hQ : ¬ LetsOut Q)
    (h : E { P := P, ops := l.toArray, b := b, n := n, w0 := w, Q := Q } (l.take n) 0 (fun _ => a) []) : (Code.region id l.toArray true).wpIn (Fence.wide.inRound lp) m P Q a w := by
  simp only [Bool.and_eq_true] at hc
  exact wpIn_region_any hm (any_in hc.2 hQ _ _ _ _ (region_any n b hc.1 h))

/-! A range over a method value: the iterator's own receiver stands ahead of yield; rounds are counted. -/

/-- Nothing turns but blocks from n₀ up to n₁, and what is new. -/
structure Keeps (n₀ n₁ : Nat) (W W' : World) : Prop where
  os : W'.os = W.os
  tape : W'.tape = W.tape
  output : W'.output = W.output
  size : W.heap.size ≤ W'.heap.size
  block : ∀ b, b < W.heap.size → (b < n₀ ∨ n₁ ≤ b) → W'.heap[b]? = W.heap[b]?

theorem Keeps.refl (n₀ n₁ : Nat) (W : World) : Keeps n₀ n₁ W W := ⟨rfl, rfl, rfl, Nat.le_refl _, fun _ _ _ => rfl⟩
theorem Keeps.trans {n₀ n₁ : Nat} {A B C : World} (h : Keeps n₀ n₁ A B) (k : Keeps n₀ n₁ B C) : Keeps n₀ n₁ A C :=
  ⟨k.os.trans h.os, k.tape.trans h.tape, k.output.trans h.output, Nat.le_trans h.size k.size, fun b hb hr => (k.block b (Nat.lt_of_lt_of_le hb h.size) hr).trans (h.block b hb hr)⟩
theorem Keeps.wider {n₀ n₁ n₂ : Nat} {A B : World} (h : Keeps n₀ n₁ A B) (hn : n₁ ≤ n₂) : Keeps n₀ n₂ A B :=
  ⟨h.os, h.tape, h.output, h.size, fun b hb hr => h.block b hb (hr.imp id fun h => Nat.le_trans hn h)⟩
theorem Keeps.grow {n₀ n₁ : Nat} {A B C : World} (h : Keeps n₀ n₁ A B) (k : Below B.heap.size B C) : Keeps n₀ n₁ A C :=
  h.trans ⟨k.os, k.tape, k.output, k.size, fun b hb _ => k.block b hb⟩
theorem Keeps.alloc {n₀ n₁ : Nat} {A B : World} (h : Keeps n₀ n₁ A B) (o : Obj) : Keeps n₀ n₁ A (B.alloc o) := h.grow ((Below.refl _ B).alloc (Nat.le_refl _) o)
theorem Keeps.drew {n₀ n₁ : Nat} {A B : World} (h : Keeps n₀ n₁ A B) : Keeps n₀ n₁ A B.drew := h.grow ((Below.refl _ B).drew)
theorem Keeps.setCell {n₀ n₁ : Nat} {A B : World} (h : Keeps n₀ n₁ A B) {p : Addr} (hp : (n₀ ≤ p.block ∧ p.block < n₁) ∨ A.heap.size ≤ p.block) (u : Value) : Keeps n₀ n₁ A (B.setCell p u) := by
  have hb := (Below.refl p.block B).setCell (p := p) (Nat.le_refl _) u
  have hfar : ∀ b, b ≠ p.block → (B.setCell p u).heap[b]? = B.heap[b]? := fun b hne => by
    have := (KeepsOthers.setCell B p u)
    simp only [World.setCell, Array.getElem?_modify]
    rw [if_neg (Ne.symm hne)]
  refine ⟨hb.os.trans h.os, hb.tape.trans h.tape, hb.output.trans h.output, by simp; exact h.size, fun b hb' hr => ?_⟩
  rw [hfar b (by omega)]
  exact h.block b hb' hr
theorem Keeps.put {n₀ n₁ : Nat} {A : World} {l : Nat} {o : Obj} (o' : Obj) (h1 : n₀ ≤ l) (h2 : l < n₁) (hl : A.heap[l]? = some o) : Keeps n₀ n₁ A (A.putObj l o') := by
  have hb := (Below.refl l A).grown (grownBy_putObj' A l o') (Nat.le_of_lt (Array.getElem?_eq_some_iff.1 hl).1) (fun k e => by cases e; exact Nat.le_refl _)
  exact ⟨hb.os, hb.tape, hb.output, hb.size, fun b _ hr => World.putObj_heap_other (by omega)⟩
theorem Keeps.below {n₀ n₁ : Nat} {w A B : World} (hw : n₀ ≤ w.heap.size) (h : Below n₀ w A) (k : Keeps n₀ n₁ A B) : Below n₀ w B :=
  ⟨k.os.trans h.os, k.tape.trans h.tape, k.output.trans h.output, Nat.le_trans h.size k.size, fun b hb => (k.block b (by have := h.size; omega) (.inl hb)).trans (h.block b hb)⟩

theorem Keeps.cell {n₀ n₁ : Nat} {A B : World} (h : Keeps n₀ n₁ A B) {b : Nat} (o : Nat) (hb : b < A.heap.size) (hr : b < n₀ ∨ n₁ ≤ b) : B.cell? ⟨b, o, none⟩ = A.cell? ⟨b, o, none⟩ := by
  have := h.block b hb hr
  simp [World.cell?, this]

/-- The iterator's contract: round k is handed 'encs k'; N rounds at most; a round turns blocks from n₀ up to n₂ alone. -/
def EachAt (m : Nat) (P : Program) (gf : Nat) (fb : Array Value) (encs : Nat → Array Value) (N n₀ n₂ : Nat) (w : World) : Prop :=
  ∀ (l : Nat) (J Jx : Nat → World → Prop) (W : World), Below w.heap.size w W → n₂ ≤ W.heap.size → (∀ k A B, J k A → Below A.heap.size A B → J k B) → (∀ k A B, Jx k A → Below A.heap.size A B → Jx k B) →
    (∀ k W1, J k W1 → k < N → YieldAt Fence.wide (m - 1) P l (encs k) W1 fun e W' => (e = .returned (.bool true) ∧ J (k + 1) W' ∧ Keeps n₀ n₂ W1 W') ∨ (e = .returned (.bool false) ∧ Jx (k + 1) W')) →
    J 0 W → CallsIn Fence.wide m P gf (fb ++ #[.func (.yield l) #[] #[]]) W fun e W' => (∃ v, e = .returned v) ∧ (J N W' ∨ ∃ k, k ≤ N ∧ Jx k W')

/-- How a round may end. -/
def roundEnd (n₀ n₁ : Nat) (I Ix : Nat → World → Prop) (k : Nat) (W : World) : Exit → Act → World → Prop
  | .normal, _, W' => Keeps n₀ n₁ W W' ∧ I k W'
  | .ret, _, W' => Keeps n₀ n₁ W W' ∧ Ix k W'
  | _, _, _ => False

/-- What the loop's own book-keeping leaves as it is. -/
structure Bides (B : Nat) (I : Nat → World → Prop) : Prop where
  grows : ∀ k A A', I k A → Below A.heap.size A A' → I k A'
  puts : ∀ k A l o o', B ≤ l → A.heap[l]? = some o → o.isCells = false → I k A → I k (A.putObj l o')

theorem wpIn_each {n : Nat} {P : Program} {g : Operand} {ps : Array Tmp} {assign body : Code} {Q : Exit → Act → World → Prop} {a : Act} {w : World} {gf : Nat} {fb : Array Value} (hg : a.eval g = .func (.func gf) fb #[])
    (eg : ∀ args w, (callFunc gf args).run P w = .ok (.enter gf args) w) {encs : Nat → Array Value} {N n₀ : Nat} (hseq : EachAt (n - 1) P gf fb encs N n₀ (w.heap.size + 2) w) (hn₀ : n₀ ≤ w.heap.size) (hps : ∀ k, (encs k).size = ps.size)
    (I Ix : Nat → World → Prop) (hI : Bides w.heap.size I) (hIx : Bides w.heap.size Ix) (h0 : I 0 w) (a₁ : Nat → Act)
    (hassign : ∀ (l k : Nat) (W : World) (K : Act → World → Prop), K (a₁ k) W →
      assign.wpIn (Fence.wide.inRound l) (n - 1 - 1) P (Exit.then K fun _ _ _ => False) { tmps := (ps.zip (encs k)).foldl (fun t (p, v) => t.setIfInBounds p v) a.tmps, defers := [] } W)
    (hbody : ∀ (l k : Nat) (W : World), w.heap.size ≤ W.heap.size → I k W → k < N → body.wpIn (Fence.wide.inRound l) (n - 1 - 1) P (roundEnd n₀ w.heap.size I Ix (k + 1) W) (a₁ k) W)
    (hdone : ∀ (D : Nat) (W : World), w.heap.size ≤ D → I N W → W.heap[D]? = some (.deferred (some [])) → Q .normal { a with defers := { target := .collected D, args := #[] } :: a.defers } W)
    (hret : ∀ (D k : Nat) (W : World), w.heap.size ≤ D → k ≤ N → Ix k W → W.heap[D]? = some (.deferred (some [])) → Code.ret.wpIn Fence.wide n P Q { a with defers := { target := .collected D, args := #[] } :: a.defers } W) :
    (Code.rangeFunc g ps assign body).wpIn Fence.wide n P Q a w := by
  refine wpIn_rangeFunc fun fn hfn => ?_
  let L (st : LoopState) (pe : Option Code) : Loop := { state := st, pending := pe, fn, tmps := a.tmps, params := ps, assign, body, defers := w.heap.size }
  let W0 := (w.alloc (.deferred (some []))).alloc (.loop (L .ready none))
  have hb0 : Below w.heap.size w W0 := ((Below.refl _ w).alloc (Nat.le_refl _) _).alloc (by simp) _
  have hL0 : W0.heap[w.heap.size + 1]? = some (.loop (L .ready none)) := by
    have := World.alloc_heap_new (w.alloc (.deferred (some []))) (.loop (L .ready none)); rwa [World.size_alloc] at this
  have hD0 : W0.heap[w.heap.size]? = some (.deferred (some [])) := (Below.heap_alloc _ _ _ (by simp)).trans (World.alloc_heap_new w _)
  have later : ∀ (A B : World) (r : Nat) (o : Obj), A.heap[r]? = some o → Below A.heap.size A B → B.heap[r]? = some o := fun A B r o h hb => (hb.block r (Array.getElem?_eq_some_iff.1 h).1).trans h
  refine ⟨w.heap.size + 1, [{ target := .collected w.heap.size, args := #[] }], W0, { target := .fn (.func gf) #[], args := fb ++ #[.func (.yield (w.heap.size + 1)) #[] #[]] }, W0, gf, fb ++ #[.func (.yield (w.heap.size + 1)) #[] #[]], W0,
    run_enterLoop_outer _ _ _ _ _, (by simp only [resolve, hg]; simp [go_sem]), fun _ _ => trivial, (by simp [invoke, go_sem, eg]), (fun h => by cases h), ?_⟩
  refine (hseq (w.heap.size + 1)
    (fun k W => I k W ∧ W.heap[w.heap.size + 1]? = some (.loop (L .ready none)) ∧ W.heap[w.heap.size]? = some (.deferred (some [])))
    (fun k W => Ix k W ∧ W.heap[w.heap.size + 1]? = some (.loop (L .done (some .ret))) ∧ W.heap[w.heap.size]? = some (.deferred (some [])))
    W0 hb0 (by simp [W0]) (fun k A B h hb => ⟨hI.grows k A B h.1 hb, later A B _ _ h.2.1 hb, later A B _ _ h.2.2 hb⟩) (fun k A B h hb => ⟨hIx.grows k A B h.1 hb, later A B _ _ h.2.1 hb, later A B _ _ h.2.2 hb⟩)
    ?_ ⟨hI.grows 0 w W0 h0 hb0, hL0, hD0⟩).mono ?_
  · rintro k W ⟨hi, hl, hk⟩ hkN
    have hlt : w.heap.size + 1 < W.heap.size := (Array.getElem?_eq_some_iff.1 hl).1
    refine ⟨fn, _, assign, body, run_yield hl (hps k), roundIn_of_wpIn hfn (hassign _ k W _ ⟨_, run_beginRound hl rfl, ?_⟩)⟩
    let W2 := W.putObj (w.heap.size + 1) (.loop (L .busy none))
    have hl2 : W2.heap[w.heap.size + 1]? = some (.loop (L .busy none)) := World.putObj_heap_same hlt
    have hk2 : W2.heap[w.heap.size]? = some (.deferred (some [])) := (World.putObj_heap_other (by omega)).trans hk
    have hb2 : Keeps n₀ (w.heap.size + 2) W W2 := Keeps.put _ (by omega) (by omega) hl
    have hlt2 := (Array.getElem?_eq_some_iff.1 hl2).1
    refine wpIn_mono (hbody _ k W2 (by omega) (hI.puts k _ _ _ _ (by omega) hl rfl hi) hkN) ?_
    rintro e a3 W3 hp
    cases e with
    | normal =>
      obtain ⟨hk3, hi3⟩ := hp
      have hl3 := (hk3.block _ hlt2 (.inr (by omega))).trans hl2
      have hd3 := (hk3.block w.heap.size (by omega) (.inr (by omega))).trans hk2
      exact ⟨_, _, run_endRound none hl3, .inl ⟨rfl, ⟨hI.puts _ _ _ _ _ (by omega) hl3 rfl hi3, World.putObj_heap_same (Array.getElem?_eq_some_iff.1 hl3).1, (World.putObj_heap_other (by omega)).trans hd3⟩,
        (hb2.trans (hk3.wider (by omega))).trans (Keeps.put _ (by omega) (by omega) hl3)⟩⟩
    | ret =>
      obtain ⟨hk3, hi3⟩ := hp
      have hl3 := (hk3.block _ hlt2 (.inr (by omega))).trans hl2
      have hd3 := (hk3.block w.heap.size (by omega) (.inr (by omega))).trans hk2
      exact ⟨_, _, run_endRound (some .ret) hl3, .inr ⟨rfl, hIx.puts _ _ _ _ _ (by omega) hl3 rfl hi3, World.putObj_heap_same (Array.getElem?_eq_some_iff.1 hl3).1, (World.putObj_heap_other (by omega)).trans hd3⟩⟩
    | _ => exact hp.elim
  · rintro e W2 ⟨⟨v, rfl⟩, (⟨hi, hl, hk⟩ | ⟨k, hkN, hi, hl, hk⟩)⟩
    · exact ⟨none, _, run_endLoop hl (by simp [L]), hdone _ _ (Nat.le_refl _) (hI.puts _ _ _ _ _ (by omega) hl rfl hi) ((World.putObj_heap_other (by omega)).trans hk)⟩
    · exact ⟨some .ret, _, run_endLoop hl (by simp [L]), hret _ k _ (Nat.le_refl _) hkN (hIx.puts _ _ _ _ _ (by omega) hl rfl hi) ((World.putObj_heap_other (by omega)).trans hk)⟩

end Free
end Go
