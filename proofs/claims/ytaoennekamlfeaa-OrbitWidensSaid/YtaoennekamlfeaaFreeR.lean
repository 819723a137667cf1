/- The law on drawn regions (Free): a call whose result lies in memory. -/
import Derived.Test.YtaoennekamlfeaaFreeEach
set_option linter.unusedSimpArgs false
set_option linter.unusedVariables false
namespace Go
open Go.RowKit
namespace Free
section
variable {P : Program} {l : Array Oper} {b : Array Nat} {n : Nat} {w0 : World} {Q : Exit → Act → World → Prop} {o : Oper} {ops : List Oper} {i : Nat} {A : U → Act} {acc : List K}

/-- A call that makes memory: what it says of its result holds as long as the blocks that it names stand. -/
theorem E.r {F : (Nat → Prop) → Value → World → Prop} (hg : o.guard = none) (hm : ∀ v, Mono (fun S w => F S v w))
    (h : ∀ u w' S, (∀ b o, b < w0.heap.size → w'.cell? ⟨b, o, none⟩ = w0.cell? ⟨b, o, none⟩) → Below w0.heap.size w0 w' → Safe w0 w' S → relUpon P w' (F S) ((execOp (A u).eval o).run P w'))
    (hK : E ⟨P, l, b, n, w0, Q⟩ ops (i + 1) (fun u => (A u).put o.dst (u i)) (acc ++ [.r fun _ => F])) : E ⟨P, l, b, n, w0, Q⟩ (o :: ops) i A acc := by
  obtain ⟨κs, hK⟩ := hK
  exact ⟨.r (fun _ => F) :: κs, ⟨⟨fun _ _ _ => rfl, fun _ v => hm v, fun u w S hb hs _ => ⟨by unfold Region.wanted; rw [hg], h u w S (cells_of hb).1 hb hs⟩⟩, hK⟩⟩

/-- A quiet operation that leans on what an earlier call has said of its result. -/
theorem E.qf (hg : o.guard = none) (h : ∃ v : Value, (∀ u w' S, (∀ b o, b < w0.heap.size → w'.cell? ⟨b, o, none⟩ = w0.cell? ⟨b, o, none⟩) → Below w0.heap.size w0 w' → Facts acc (b.getD i 0) u S w' → o.quietAt P (A u) (fun w'' => Below w'.heap.size w' w'') w' v) ∧
      E ⟨P, l, b, n, w0, Q⟩ ops (i + 1) (fun u => (A u).put o.dst v) (acc ++ [.q fun _ => v])) : E ⟨P, l, b, n, w0, Q⟩ (o :: ops) i A acc := by
  obtain ⟨v, h, κs, hK⟩ := h
  exact ⟨.q (fun _ => v) :: κs, ⟨fun _ _ _ => rfl, fun u w S hb hf => by rw [if_pos (by unfold Region.wanted; rw [hg])]; exact h u w S (cells_of hb).1 hb hf⟩, hK⟩

theorem relUpon_enter {w : World} {F : Value → World → Prop} {f : FuncId} {args : Array Value} (h : Calls P f args w (fun e w'' => ∃ v, e = .returned v ∧ Below w.heap.size w w'' ∧ F v w'')) : relUpon P w F (.ok (.enter f args) w) := ⟨rfl, h⟩
end
end Free
end Go
