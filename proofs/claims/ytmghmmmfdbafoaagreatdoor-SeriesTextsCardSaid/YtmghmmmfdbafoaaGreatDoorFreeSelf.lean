/- Rounds of a loop over a function that keeps its own count in a variable that it has caught. -/
import Derived.Test.YtmghmmmfdbafoaaGreatDoorFreeEach
set_option linter.unusedSimpArgs false
set_option linter.unusedVariables false
namespace Go
open Go.RowKit
namespace Free
variable {P : Program}
theorem blk_setCell_farS {w : World} {g b i : Nat} {o : Obj} (h : w.heap[g]? = some o) (hne : b ≠ g) (v : Value) : (w.setCell ⟨b, i, none⟩ v).heap[g]? = some o := by
  simp [World.setCell, Array.getElem?_modify, h, hne]
/-- What a store into the iterator's own variable leaves as it is. -/
def Stable (B : Nat) (I : Nat → World → Prop) : Prop := ∀ k A v, I k A → I k (A.setCell ⟨B, 0, none⟩ v)
/-- The iterator's contract, where it stores into block B: no round turns that block. -/
def EachAtS (B m : Nat) (P : Program) (gf : Nat) (cs : Array Value) (encs : Nat → Array Value) (N n₂ : Nat) (w : World) : Prop :=
  ∀ (l : Nat) (J Jx : Nat → World → Prop) (W : World), Below w.heap.size w W → n₂ ≤ W.heap.size → (∀ k A B, J k A → Below A.heap.size A B → J k B) → Stable B J → (∀ k A B, Jx k A → Below A.heap.size A B → Jx k B) →
    (∀ k W1, J k W1 → k < N → YieldAt Fence.wide (m - 1) P l (encs k) W1 fun e W' => (e = .returned (.bool true) ∧ J (k + 1) W' ∧ W1.heap.size ≤ W'.heap.size ∧ W'.heap[B]? = W1.heap[B]?) ∨ (e = .returned (.bool false) ∧ Jx (k + 1) W')) →
    J 0 W → CallsIn Fence.wide m P gf (#[.func (.yield l) #[] #[]] ++ cs) W fun e W' => (∃ v, e = .returned v) ∧ (J N W' ∨ ∃ k, k ≤ N ∧ Jx k W')
/-- How a round may end: the iterator's variable and the loop's two marks stand. -/
def roundEndS (B D : Nat) (I Ix : Nat → World → Prop) (k : Nat) (W : World) : Exit → Act → World → Prop
  | .normal, _, W' => W.heap.size ≤ W'.heap.size ∧ (∀ x, x = B ∨ x = D ∨ x = D + 1 → W'.heap[x]? = W.heap[x]?) ∧ I k W'
  | .ret, _, W' => (∀ x, x = D ∨ x = D + 1 → W'.heap[x]? = W.heap[x]?) ∧ Ix k W'
  | _, _, _ => False
theorem wpIn_eachS {n B : Nat} {P : Program} {g : Operand} {ps : Array Tmp} {assign body : Code} {Q : Exit → Act → World → Prop} {a : Act} {w : World} {gf : Nat} {cs : Array Value} (hg : a.eval g = .func (.func gf) #[] cs)
    (eg : ∀ args w, (callFunc gf args).run P w = .ok (.enter gf args) w) {encs : Nat → Array Value} {N : Nat} (hseq : EachAtS B (n - 1) P gf cs encs N (w.heap.size + 2) w) (hB : B < w.heap.size) (hps : ∀ k, (encs k).size = ps.size)
    (I Ix : Nat → World → Prop) (hI : Bides w.heap.size I) (hIS : Stable B I) (hIx : Bides w.heap.size Ix) (h0 : I 0 w) (a₁ : Nat → Act)
    (hassign : ∀ (l k : Nat) (W : World) (K : Act → World → Prop), K (a₁ k) W →
      assign.wpIn (Fence.wide.inRound l) (n - 1 - 1) P (Exit.then K fun _ _ _ => False) { tmps := (ps.zip (encs k)).foldl (fun t (p, v) => t.setIfInBounds p v) a.tmps, defers := [] } W)
    (hbody : ∀ (l k : Nat) (W : World), w.heap.size + 2 ≤ W.heap.size → I k W → k < N → body.wpIn (Fence.wide.inRound l) (n - 1 - 1) P (roundEndS B w.heap.size I Ix (k + 1) W) (a₁ k) W)
    (hdone : ∀ (D : Nat) (W : World), w.heap.size ≤ D → I N W → W.heap[D]? = some (.deferred (some [])) → Q .normal { a with defers := { target := .collected D, args := #[] } :: a.defers } W)
    (hret : ∀ (D k : Nat) (W : World), w.heap.size ≤ D → k ≤ N → Ix k W → W.heap[D]? = some (.deferred (some [])) → Code.ret.wpIn Fence.wide n P Q { a with defers := { target := .collected D, args := #[] } :: a.defers } W) :
    (Code.rangeFunc g ps assign body).wpIn Fence.wide n P Q a w := by
  refine wpIn_rangeFunc fun fn hfn => ?_
  let L (st : LoopState) (pe : Option Code) : Loop := { state := st, pending := pe, fn, tmps := a.tmps, params := ps, assign, body, defers := w.heap.size }
  let W0 := (w.alloc (.deferred (some []))).alloc (.loop (L .ready none))
  have hb0 : Below w.heap.size w W0 := ((Below.refl _ w).alloc (Nat.le_refl _) _).alloc (by simp) _
  have hL0 : W0.heap[w.heap.size + 1]? = some (.loop (L .ready none)) := by
    have := World.alloc_heap_new (w.alloc (.deferred (some []))) (.loop (L .ready none)); rwa [World.size_alloc] at this
  have hD0 : W0.heap[w.heap.size]? = some (.deferred (some [])) := (Below.heap_alloc _ _ _ (by simp)).trans (World.alloc_heap_new w _)
  have later : ∀ (A B : World) (r : Nat) (o : Obj), A.heap[r]? = some o → Below A.heap.size A B → B.heap[r]? = some o := fun A B r o h hb => (hb.block r (Array.getElem?_eq_some_iff.1 h).1).trans h
  refine ⟨w.heap.size + 1, [{ target := .collected w.heap.size, args := #[] }], W0, { target := .fn (.func gf) cs, args := #[.func (.yield (w.heap.size + 1)) #[] #[]] }, W0, gf, #[.func (.yield (w.heap.size + 1)) #[] #[]] ++ cs, W0,
    run_enterLoop_outer _ _ _ _ _, (by simp only [resolve, hg]; simp [go_sem]), fun _ _ => trivial, (by simp [invoke, go_sem, eg]), (fun h => by cases h), ?_⟩
  refine (hseq (w.heap.size + 1)
    (fun k W => I k W ∧ W.heap[w.heap.size + 1]? = some (.loop (L .ready none)) ∧ W.heap[w.heap.size]? = some (.deferred (some [])))
    (fun k W => Ix k W ∧ W.heap[w.heap.size + 1]? = some (.loop (L .done (some .ret))) ∧ W.heap[w.heap.size]? = some (.deferred (some [])))
    W0 hb0 (by simp [W0]) (fun k A B h hb => ⟨hI.grows k A B h.1 hb, later A B _ _ h.2.1 hb, later A B _ _ h.2.2 hb⟩) (fun k A v h => ⟨hIS k A v h.1, blk_setCell_farS h.2.1 (by omega) v, blk_setCell_farS h.2.2 (by omega) v⟩) (fun k A B h hb => ⟨hIx.grows k A B h.1 hb, later A B _ _ h.2.1 hb, later A B _ _ h.2.2 hb⟩)
    ?_ ⟨hI.grows 0 w W0 h0 hb0, hL0, hD0⟩).mono ?_
  · rintro k W ⟨hi, hl, hk⟩ hkN
    have hlt : w.heap.size + 1 < W.heap.size := (Array.getElem?_eq_some_iff.1 hl).1
    refine ⟨fn, _, assign, body, run_yield hl (hps k), roundIn_of_wpIn hfn (hassign _ k W _ ⟨_, run_beginRound hl rfl, ?_⟩)⟩
    let W2 := W.putObj (w.heap.size + 1) (.loop (L .busy none))
    have hl2 : W2.heap[w.heap.size + 1]? = some (.loop (L .busy none)) := World.putObj_heap_same hlt
    have hk2 : W2.heap[w.heap.size]? = some (.deferred (some [])) := (World.putObj_heap_other (by omega)).trans hk
    have hlt2 := (Array.getElem?_eq_some_iff.1 hl2).1
    refine wpIn_mono (hbody _ k W2 (by omega) (hI.puts k _ _ _ _ (by omega) hl rfl hi) hkN) ?_
    rintro e a3 W3 hp
    cases e with
    | normal =>
      obtain ⟨hsz3, hk3, hi3⟩ := hp
      have hl3 := (hk3 _ (.inr (.inr rfl))).trans hl2
      have hd3 := (hk3 _ (.inr (.inl rfl))).trans hk2
      have hB3 := hk3 _ (.inl rfl)
      exact ⟨_, _, run_endRound none hl3, .inl ⟨rfl, ⟨hI.puts _ _ _ _ _ (by omega) hl3 rfl hi3, World.putObj_heap_same (Array.getElem?_eq_some_iff.1 hl3).1, (World.putObj_heap_other (by omega)).trans hd3⟩,
        (by simpa [W2] using hsz3), (World.putObj_heap_other (by omega)).trans (hB3.trans (World.putObj_heap_other (by omega)))⟩⟩
    | ret =>
      obtain ⟨hk3, hi3⟩ := hp
      have hl3 := (hk3 _ (.inr rfl)).trans hl2
      have hd3 := (hk3 _ (.inl rfl)).trans hk2
      exact ⟨_, _, run_endRound (some .ret) hl3, .inr ⟨rfl, hIx.puts _ _ _ _ _ (by omega) hl3 rfl hi3, World.putObj_heap_same (Array.getElem?_eq_some_iff.1 hl3).1, (World.putObj_heap_other (by omega)).trans hd3⟩⟩
    | _ => exact hp.elim
  · rintro e W2 ⟨⟨v, rfl⟩, (⟨hi, hl, hk⟩ | ⟨k, hkN, hi, hl, hk⟩)⟩
    · exact ⟨none, _, run_endLoop hl (by simp [L]), hdone _ _ (Nat.le_refl _) (hI.puts _ _ _ _ _ (by omega) hl rfl hi) ((World.putObj_heap_other (by omega)).trans hk)⟩
    · exact ⟨some .ret, _, run_endLoop hl (by simp [L]), hret _ k _ (Nat.le_refl _) hkN (hIx.puts _ _ _ _ _ (by omega) hl rfl hi) ((World.putObj_heap_other (by omega)).trans hk)⟩

theorem wp_eachS {g : Operand} {p d B : Nat} {assign body : Code} {Q : Exit → Act → World → Prop} {a : Act} {w : World} {gf : Nat} {cs : Array Value} (hg : a.eval g = .func (.func gf) #[] cs)
    (eg : ∀ args w, (callFunc gf args).run P w = .ok (.enter gf args) w) {v : Nat → Value} {N : Nat} (hseq : EachAtS B 7 P gf cs (fun k => #[v k]) N (w.heap.size + 2) w) (hB : B < w.heap.size)
    (I Ix : Nat → World → Prop) (hI : Bides w.heap.size I) (hIS : Stable B I) (hIx : Bides w.heap.size Ix) (h0 : I 0 w)
    (hassign : ∀ (l k : Nat) (W : World) (K : Act → World → Prop), K (setTo a p d (v k)) W →
      assign.wpIn (Fence.wide.inRound l) 6 P (Exit.then K fun _ _ _ => False) { tmps := a.tmps.setIfInBounds p (v k), defers := [] } W)
    (hbody : ∀ (l k : Nat) (W : World), w.heap.size + 2 ≤ W.heap.size → I k W → k < N → body.wpIn (Fence.wide.inRound l) 6 P (roundEndS B w.heap.size I Ix (k + 1) W) (setTo a p d (v k)) W)
    (hdone : ∀ (D : Nat) (W : World), w.heap.size ≤ D → I N W → W.heap[D]? = some (.deferred (some [])) → Q .normal { a with defers := { target := .collected D, args := #[] } :: a.defers } W)
    (hret : ∀ (D k : Nat) (W : World), w.heap.size ≤ D → k ≤ N → Ix k W → W.heap[D]? = some (.deferred (some [])) → Q .ret { a with defers := { target := .collected D, args := #[] } :: a.defers } W) :
    (Code.rangeFunc g #[p] assign body).wp P Q a w :=
  (wpIn_wide (n := 8)).1 (wpIn_eachS hg eg hseq hB (fun _ => rfl) I Ix hI hIS hIx h0 (fun k => setTo a p d (v k)) (fun l k W K hK => by simpa using hassign l k W K hK) hbody hdone
    (fun D k W h1 h2 h3 h4 => wpIn_wide.2 (wp_ret (hret D k W h1 h2 h3 h4))))

end Free
end Go
