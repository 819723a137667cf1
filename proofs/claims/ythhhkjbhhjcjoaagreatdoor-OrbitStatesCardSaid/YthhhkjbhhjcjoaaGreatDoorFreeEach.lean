/- A range over a method value in a function's own body: the law in the form of the plain walk, and how such a function ends. -/
import Derived.Test.YthhhkjbhhjcjoaaGreatDoorFreeIn
import Derived.Shelf.Abstract
set_option linter.unusedSimpArgs false
set_option linter.unusedVariables false
namespace Go
open Go.RowKit
namespace Free
variable {P : Program}

/-- The marks of loops that are over: each one's block is shut. -/
def Marks : List Deferred → World → World → Prop
  | [], w, w' => w = w'
  | d :: ds, w, w' => ∃ D, d = { target := .collected D, args := #[] } ∧ w.heap[D]? = some (.deferred (some [])) ∧ Marks ds (w.putObj D (.deferred none)) w'

/-- What the body of a function with such loops must achieve. -/
def bodyPostE (P : Program) (fn : Func) (R : Ending → World → Prop) : Exit → Act → World → Prop
  | .normal, a, w | .ret, a, w => ∃ w', Marks a.defers w w' ∧ ∃ v, (results fn a.tmps).run P w' = .ok v w' ∧ R (.returned v) w'
  | .outgrown, _, w => R .outgrown w
  | _, _, _ => False

theorem leaves_of {fn : Func} {tmps : Array Value} {R : Ending → World → Prop} {n : Nat} : ∀ (ds : List Deferred) (w w' : World), Marks ds w w' → (∃ v, (results fn tmps).run P w' = .ok v w' ∧ R (.returned v) w') →
    LeavesInM Fence.wide n P fn tmps R ds .returning w
  | [], w, w', h, k => by
    have e : w = w' := h
    subst e
    exact k
  | d :: ds, w, w', ⟨D, hd, hD, h⟩, k => by
    subst hd
    exact ⟨by simp, .inl ⟨D, _, rfl, run_takeDeferred hD, leaves_of ds _ w' h k⟩⟩

theorem calls_of_each {f : FuncId} {fn : Func} {c : Code} {args : Array Value} {w : World} {R : Ending → World → Prop}
    (hf : P.funcs[f]? = some fn) (hb : fn.body = some c)
    (h : c.wp P (bodyPostE P fn R) { tmps := args ++ Array.replicate (fn.ntmps - args.size) undef, defers := [] } w) : Calls P f args w R := by
  refine (callsIn_wide (n := 8)).1 (callsIn_of_wp_marks hf hb trivial (wpIn_wide.2 (wp_mono h ?_)))
  rintro e a w hp
  cases e with
  | normal => obtain ⟨w', hm, k⟩ := hp; exact leaves_of _ _ _ hm k
  | ret => obtain ⟨w', hm, k⟩ := hp; exact leaves_of _ _ _ hm k
  | outgrown => exact hp
  | _ => exact hp.elim

theorem bodyPostE_ret1 {fn : Func} {R : Ending → World → Prop} {a : Act} {w : World} {v : Value} {D : Nat} (hr : (results fn a.tmps).run P (w.putObj D (.deferred none)) = .ok v (w.putObj D (.deferred none))) (hd : a.defers = [{ target := .collected D, args := #[] }])
    (hD : w.heap[D]? = some (.deferred (some []))) (hR : R (.returned v) (w.putObj D (.deferred none))) : bodyPostE P fn R .ret a w :=
  ⟨_, by rw [hd]; exact ⟨D, rfl, hD, rfl⟩, v, hr, hR⟩

theorem Grow.put {a w : World} (h : Below a.heap.size a w) {D : Nat} (hD : a.heap.size ≤ D) {o : Obj} (hl : w.heap[D]? = some o) (o' : Obj) : Below a.heap.size a (w.putObj D o') :=
  h.grown (grownBy_putObj' w D o') h.size (fun k e => by cases e; exact hD)

def setTo (a : Act) (p d : Nat) (v : Value) : Act := { tmps := (a.tmps.setIfInBounds p v).setIfInBounds d v, defers := [] }

theorem wp_each {g : Operand} {p d : Nat} {assign body : Code} {Q : Exit → Act → World → Prop} {a : Act} {w : World} {gf : Nat} {fb : Array Value} (hg : a.eval g = .func (.func gf) fb #[])
    (eg : ∀ args w, (callFunc gf args).run P w = .ok (.enter gf args) w) {v : Nat → Value} {N n₀ : Nat} (hseq : EachAt 7 P gf fb (fun k => #[v k]) N n₀ (w.heap.size + 2) w) (hn₀ : n₀ ≤ w.heap.size)
    (I Ix : Nat → World → Prop) (hI : Bides w.heap.size I) (hIx : Bides w.heap.size Ix) (h0 : I 0 w)
    (hassign : ∀ (l k : Nat) (W : World) (K : Act → World → Prop), K (setTo a p d (v k)) W →
      assign.wpIn (Fence.wide.inRound l) 6 P (Exit.then K fun _ _ _ => False) { tmps := a.tmps.setIfInBounds p (v k), defers := [] } W)
    (hbody : ∀ (l k : Nat) (W : World), w.heap.size ≤ W.heap.size → I k W → k < N → body.wpIn (Fence.wide.inRound l) 6 P (roundEnd n₀ w.heap.size I Ix (k + 1) W) (setTo a p d (v k)) W)
    (hdone : ∀ (D : Nat) (W : World), w.heap.size ≤ D → I N W → W.heap[D]? = some (.deferred (some [])) → Q .normal { a with defers := { target := .collected D, args := #[] } :: a.defers } W)
    (hret : ∀ (D k : Nat) (W : World), w.heap.size ≤ D → k ≤ N → Ix k W → W.heap[D]? = some (.deferred (some [])) → Q .ret { a with defers := { target := .collected D, args := #[] } :: a.defers } W) :
    (Code.rangeFunc g #[p] assign body).wp P Q a w :=
  (wpIn_wide (n := 8)).1 (wpIn_each hg eg hseq hn₀ (fun _ => rfl) I Ix hI hIx h0 (fun k => setTo a p d (v k)) (fun l k W K hK => by simpa using hassign l k W K hK) hbody hdone
    (fun D k W h1 h2 h3 h4 => wpIn_wide.2 (wp_ret (hret D k W h1 h2 h3 h4))))

/-! What abides the loop's own book-keeping. -/
theorem Bides.and {B : Nat} {I J : Nat → World → Prop} (h : Bides B I) (k : Bides B J) : Bides B fun n W => I n W ∧ J n W :=
  ⟨fun n A A' hi hb => ⟨h.grows n A A' hi.1 hb, k.grows n A A' hi.2 hb⟩, fun n A l o o' hl ho hc hi => ⟨h.puts n A l o o' hl ho hc hi.1, k.puts n A l o o' hl ho hc hi.2⟩⟩
theorem Bides.below {B n₀ : Nat} {w0 : World} (h0 : n₀ ≤ w0.heap.size) (h : n₀ ≤ B) : Bides B fun _ W => Below n₀ w0 W :=
  ⟨fun _ A A' hi hb => Below.trans hi (hb.mono (by have := hi.size; omega)), fun _ A l o o' hl ho _ hi => hi.grown (grownBy_putObj' A l o') (by have := hi.size; omega) (fun k e => by cases e; omega)⟩
theorem Bides.none {B : Nat} : Bides B fun _ _ => False := ⟨fun _ _ _ h _ => h, fun _ _ _ _ _ _ _ _ h => h⟩
/-- A block of cells stands. -/
theorem Bides.block {B b : Nat} (c : Nat → Obj) (h : b < B) : Bides B fun n W => W.heap[b]? = some (c n) :=
  ⟨fun _ A A' hi hb => (hb.block b (Array.getElem?_eq_some_iff.1 hi).1).trans hi, fun _ A l o o' hl ho _ hi => (World.putObj_heap_other (by omega)).trans hi⟩
theorem blk_alloc_old {w : World} {g : Nat} {o o' : Obj} (h : w.heap[g]? = some o) : (w.alloc o').heap[g]? = some o := (Below.heap_alloc w o' g (Array.getElem?_eq_some_iff.1 h).1).trans h
theorem blk_new {w : World} {g : Nat} (o : Obj) (h : g = w.heap.size) : (w.alloc o).heap[g]? = some o := by subst h; exact World.alloc_heap_new w o
theorem blk_drew {w : World} {g : Nat} {o : Obj} (h : w.heap[g]? = some o) : w.drew.heap[g]? = some o := h
theorem blk_setCell_same {w : World} {g i : Nat} {c : Array Value} {ty : TypeId} {fr : Nat × Nat} (h : w.heap[g]? = some (.cells c ty fr)) (v : Value) : (w.setCell ⟨g, i, none⟩ v).heap[g]? = some (.cells (c.setIfInBounds i v) ty fr) := by
  simp [World.setCell, Array.getElem?_modify, h]
theorem blk_setCell_to {w : World} {g i : Nat} {c c' : Array Value} {ty : TypeId} {fr : Nat × Nat} {v : Value} (h : w.heap[g]? = some (.cells c ty fr)) (e : c.setIfInBounds i v = c') : (w.setCell ⟨g, i, none⟩ v).heap[g]? = some (.cells c' ty fr) := by
  subst e; exact blk_setCell_same h v
theorem blk_setCell_far {w : World} {g b i : Nat} {o : Obj} (h : w.heap[g]? = some o) (hne : b ≠ g) (v : Value) : (w.setCell ⟨b, i, none⟩ v).heap[g]? = some o := by
  simp [World.setCell, Array.getElem?_modify, h, hne]
theorem blk_below {w w' : World} {g : Nat} {o : Obj} (h : w.heap[g]? = some o) (hb : Below w.heap.size w w') : w'.heap[g]? = some o := (hb.block g (Array.getElem?_eq_some_iff.1 h).1).trans h
end Free
end Go
