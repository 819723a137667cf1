/- Screens as arguments. -/
import Derived.Test.Ytnocdnhhlppahaa08H
import Derived.Test.Ytnocdnhhlppahaa08sc
set_option linter.unusedSimpArgs false
set_option linter.unusedVariables false
namespace Go.Proofs.Ytnocdnhhlppahaa
open Go.ChangeShapes Go.WideShapes Go.ChangeAt Go Go.RowKit Go.Ab Go.Sr
set_option maxRecDepth 100000
def mkS (f : Nat → Int) : Scp := ⟨f 0, f 1, f 2, f 3⟩
theorem cells_sc : Try.prog.cellsOf 117 = 4 := by kernel_rfl
theorem ints_sc : intsT Try.prog 4 117 = true := by kernel_rfl
theorem open_L {H : Type} {enc : TypeId × Value → H} {w : World} {base : Nat} {spare : Nat → Bool} {held : Bool} {r : Reach} {b0 : Nat} {v : Value} {d : DataW H} {p : List MemPlace} (hv : Value.okWide Try.prog w r b0 108 v) (h : DataW.Trod enc Try.prog w base spare held 108 v d p) :
    ∃ a l cap, v = .slice a (List.length (α := Scp) l) cap ∧ l.length ≤ cap ∧ cap ≤ maxLen ∧ SlX w a (flatP l) ∧ (a = none → cap = 0) := by
  obtain ⟨a0, len, cap0, rfl⟩ := okWide_slice Try.underlying108 hv
  obtain ⟨fuel, hf⟩ := h
  obtain ⟨a, l, cap, e, h1, h2, h3, h4, _⟩ := open_ints spC (fun _ => rfl) mkS (fun f j hj => match j, hj with | 0, _ => rfl | 1, _ => rfl | 2, _ => rfl | 3, _ => rfl) Try.underlying108 cells_sc (by decide) ints_sc hf
  exact ⟨a, l, cap, e, h1, h2, h3, h4⟩
theorem flatP_nil (l : List Scp) : flatP l = [] ↔ l.length = 0 := by
  rw [← List.length_eq_zero_iff, flatP_len]
  omega
/-- One screen, and values without addresses. -/
theorem glueP {f : FuncId} {a : Option Addr} {l : List Scp} {cap : Nat} {us : List Value} {w : World} (hu : us.all flat = true) (hS : SlX w a (flatP l)) (hc : l.length ≤ cap) (hz : a = none → cap = 0)
    (h : ∀ v m0, SlP m0 v l → PCalls Try.prog f (v :: us) m0 (.bool true)) :
    Calls Try.prog f (Value.slice a l.length cap :: us).toArray w fun e w' => e = .returned (.bool true) ∧ Below w.heap.size w w' := by
  refine glueX (args := vaX 0 l.length a.isNone :: us) (flatP_scal l) hS (fun ρ hρ => ?_) (h _ _ ?_)
  · refine .tuple (by simp) fun i h h' => ?_
    match i, h with
    | 0, _ => exact vaX_rel hS (flatP_nil l) hc hz hρ
    | i + 1, h =>
      have hi : i < us.length := by simpa using h
      have := List.all_eq_true.1 hu us[i] (List.getElem_mem hi)
      simpa using VRel.flat (ρ := ρ) this
  · unfold vaX
    by_cases hl : l.length = 0
    · rw [if_pos hl]
      cases a.isNone
      · exact .lost hl rfl
      · exact .nil hl rfl
    · rw [if_neg hl]
      refine .blk 0 ⟨flatP l, false, 0⟩ rfl ?_ rfl
      unfold blX
      rw [if_neg (fun h => hl ((flatP_nil l).1 h))]
      rfl
theorem sl_form6 (N : Nm) : ∃ a b c d e f : Int, slV N = .agg #[.int .i64 a, .int .i64 b, .int .i64 c, .int .i64 d, .int .i64 e, .int .i64 f] := by
  unfold slV thV
  split
  · exact ⟨0, 0, 0, 0, 0, 0, rfl⟩
  · split
    · exact ⟨_, _, _, _, _, _, rfl⟩
    · exact ⟨0, 0, 0, 0, 0, 0, rfl⟩
end Go.Proofs.Ytnocdnhhlppahaa
