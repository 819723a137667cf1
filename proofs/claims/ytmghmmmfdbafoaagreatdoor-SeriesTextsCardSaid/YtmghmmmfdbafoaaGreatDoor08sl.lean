/- Chapter 8: dates in a list that may be nil; the results of Parse. -/
import Derived.Test.YtmghmmmfdbafoaaGreatDoor08l
import Derived.Test.YtmghmmmfdbafoaaGreatDoor08tw
import Derived.Test.YtmghmmmfdbafoaaGreatDoorTr
set_option linter.unusedSimpArgs false
set_option linter.unusedVariables false
namespace Go.Proofs.YtmghmmmfdbafoaaGreatDoor
open Go Go.RowKit Go.Ab Go.Sr Go.Lib Go.Tx
/-- No series. -/
abbrev noS : Value := .agg #[.string ⟨#[]⟩, .slice none 0 0]
/-- Dates: a list that may be nil. -/
def slv (b : Nat) (es : List Ep) : Value := if es = [] then .slice none 0 0 else .slice (some ⟨b, 0, none⟩) es.length INF
def slB (es : List Ep) : Option Blk := if es = [] then none else some ⟨flatE es, true, 4⟩
def slM (es : List Ep) : Mem := if es = [] then [] else [some ⟨flatE es, true, 4⟩]
theorem slv_nil (b : Nat) : slv b [] = .slice none 0 0 := rfl
theorem slB_nil : slB [] = none := rfl
theorem slv_ne (b : Nat) {es : List Ep} (h : es ≠ []) : slv b es = .slice (some ⟨b, 0, none⟩) es.length INF := if_neg h
theorem slB_ne {es : List Ep} (h : es ≠ []) : slB es = some ⟨flatE es, true, 4⟩ := if_neg h
theorem slM_ne {es : List Ep} (h : es ≠ []) : slM es = [some ⟨flatE es, true, 4⟩] := if_neg h
/-- The series with a text, its line, its error. -/
def resP (p : List UInt8 × List Ep × Nat × Int) : Value := .tuple #[srV (tx p.1) (slv 0 p.2.1), .int .i64 (p.2.2.1 : Nat), .int .i64 p.2.2.2]
theorem resP_ne {nm : List UInt8} {es : List Ep} {i : Nat} {c : Int} (h : es ≠ []) : resP (nm, es, i, c) = .tuple #[srV (tx nm) (.slice (some ⟨0, 0, none⟩) es.length INF), .int .i64 (i : Nat), .int .i64 c] := by
  unfold resP
  simp only [slv_ne 0 h]
end Go.Proofs.YtmghmmmfdbafoaaGreatDoor
