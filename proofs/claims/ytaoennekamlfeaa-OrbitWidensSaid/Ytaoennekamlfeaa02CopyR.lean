/- Chapter 2: the copy of an orbit in a region that draws its order. -/
import Derived.Test.Ytaoennekamlfeaa02C
import Derived.Test.YtaoennekamlfeaaFreeR
set_option linter.unusedSimpArgs false
set_option linter.unusedVariables false
namespace Go.Proofs.Ytaoennekamlfeaa
open Go.RowKit Go.Ob

theorem OrbIn.block {w w' : World} {nm : ByteArray} {g cap : Nat} {l : List St} (h : OrbIn w nm (some ⟨g, 0, none⟩) cap l) (hs : w.heap.size ≤ w'.heap.size) (hb : g < w.heap.size → w'.heap[g]? = w.heap[g]?) : OrbIn w' nm (some ⟨g, 0, none⟩) cap l :=
  ⟨h.nm, ⟨h.sts.wf, fun hl => by
    obtain ⟨b, off, e, hlt, hS⟩ := h.sts.mem hl
    simp only [Option.some.injEq, Addr.mk.injEq, and_true] at e
    obtain ⟨rfl, rfl⟩ := e
    have hc : ∀ o, w'.cell? ⟨g, o, none⟩ = w.cell? ⟨g, o, none⟩ := fun o => by simp [World.cell?, hb hlt]
    exact ⟨g, 0, rfl, Nat.lt_of_lt_of_le hlt hs, fun k hk => by simp only [hc]; exact hS k hk⟩⟩, h.cap, h.len⟩

/-- What a copy is, as long as its block stands. -/
def CopyF (nm : ByteArray) (bd : Int) (l : List St) (S : Nat → Prop) (v : Value) (w : World) : Prop :=
  ∃ g cap, v = obV nm bd (some ⟨g, 0, none⟩) l.length cap ∧ g < w.heap.size ∧ S g ∧ OrbIn w nm (some ⟨g, 0, none⟩) cap l
theorem CopyF.mono (nm : ByteArray) (bd : Int) (l : List St) (v : Value) : Free.Mono (fun S w => CopyF nm bd l S v w) := by
  rintro S S' w w' hs hb ⟨g, cap, hv, hg, hS, hO⟩
  exact ⟨g, cap, hv, Nat.lt_of_lt_of_le hg hs, (hb g hg hS).1, hO.block hs (fun _ => (hb g hg hS).2)⟩
theorem Copy_rel {nm : ByteArray} {bd : Int} {a : Option Addr} {cap : Nat} {l : List St} {w w0 : World} {S : Nat → Prop} (hO : OrbIn w nm a cap l) (hl : l.length ≤ 1000) (hs : Free.Safe w0 w S) :
    Calls Try.prog 18 #[obV nm bd a l.length cap] w fun e w'' => ∃ v, e = .returned v ∧ Below w.heap.size w w'' ∧ CopyF nm bd l S v w'' :=
  (Copy_any nm bd a cap l w hO hl).mono fun e w'' ⟨g, cap', he, hb, ho, hO'⟩ => ⟨_, he, hb, g, cap', rfl, (ho.lt g rfl).2, hs g (.inr (ho.lt g rfl).1), hO'⟩
end Go.Proofs.Ytaoennekamlfeaa
