/-
  NARROWER THAN 'FOR EVERY INPUT', by the rows' own cells (each row's printed sentence says how): SeriesNormal: laid · SeriesRanks: laid.
  DERIVED. THE GIVEN ROWS OF THIS SEAT. 2 by the template 'for every input the law returns true; each argument reads behind the call as it read before'; 0 by the template 'total and deterministic' (their statements: YthgbincoppnpgaaDoorTotals.lean).
  GIVEN WITH THE SEED: the statements are not yours to turn. If you find one false, say at which input.
  Laid BY PROGRAM, IN A SANDBOX (cutbox-rows.mjs): the forced cells as the released guide's own fill.sh prints them over the translation 173648ccad0ec8d1… (all of the seat's roots in one cut). By AI agents, Wed Nov 11 2026. No macro, syntax, notation, axiom, sorry.
-/
import Derived.Test.YthgbincoppnpgaaDoorChecked
import GoSem.Claim
import GoSem.ClaimJoined
import GoSem.ClaimMapViews
import Derived.JoinedTies
import Derived.KernelRfl
namespace Go.Proofs.YthgbincoppnpgaaDoor
/- THE CELL 'sum', in the pinned program and in every row, IS THE sha256 OF THE DUMP (.gsa) THAT YthgbincoppnpgaaDoorProg.lean LOADS. Nothing in Lean hashes anything: it is a label: what it is worth is what the hold of that sum in a sandbox is worth. -/
noncomputable def Tryd.pinned : Pinned := { name := "ythgbincoppnpgaadoor", sum := "173648ccad0ec8d1ffea1c50450908dc820f34b1ff6fbc9841ca811ccd422bec", checked := Tryd.checked }
namespace Rows
def none {H : Type} : Left H := { results := [], args := [] }

/- WHAT THE LISTED PACKAGE-LEVEL VARIABLES READ AS WHEN THE CALL BEGINS. Each datum BY PROGRAM (the guide's laid-datum.mjs) off the statement by which the dump's own 'gosem.cut.vars' lays the variable. In a bare row this is a premise. The card (YthgbincoppnpgaaDoorCards.lean) ties it to the program's text. -/
def laid_swath_series_all {H : Type} : DataW H := .agg [.lit (.int .i64 0), .lit (.int .i64 1), .lit (.int .i64 2)]

/-- 'swathlaw08.SeriesNormal': WHATEVER THE INPUT: true; the input reads as it did. -/
def seriesNormalSpec : ChangeSpec := { name := "seriesNormal", fn := fun _ => fun
  | [d] => { results := [.lit (.bool true)], args := [d] }
  | _ => none }
def seriesNormalRow : OpenClaim := { program := "ythgbincoppnpgaadoor", sum := "173648ccad0ec8d1ffea1c50450908dc820f34b1ff6fbc9841ca811ccd422bec", func := "swath/swathlaw08.SeriesNormal", spec := "seriesNormal", unfollowed := true, recurses := true, named := ["swath/series.all"], apart := false, laid := [("swath/series.all", laid_swath_series_all)] }
def SeriesNormalSaid : Prop := seriesNormalRow.holds Tryd.pinned (OpenSpec.ofChange seriesNormalSpec)

/-- ITS FALSE NEIGHBOUR: 'it returns false'. Refute it at one input. -/
def seriesNormalWrong : ChangeSpec := { name := "seriesNormal", fn := fun _ => fun
  | [d] => { results := [.lit (.bool false)], args := [d] }
  | _ => none }
def SeriesNormalWrongFalsely : Prop := seriesNormalRow.holds Tryd.pinned (OpenSpec.ofChange seriesNormalWrong)

/-- 'swathlaw08.SeriesRanks': WHATEVER THE INPUT: true; the input reads as it did. -/
def seriesRanksSpec : ChangeSpec := { name := "seriesRanks", fn := fun _ => fun
  | [d1, d2] => { results := [.lit (.bool true)], args := [d1, d2] }
  | _ => none }
def seriesRanksRow : OpenClaim := { program := "ythgbincoppnpgaadoor", sum := "173648ccad0ec8d1ffea1c50450908dc820f34b1ff6fbc9841ca811ccd422bec", func := "swath/swathlaw08.SeriesRanks", spec := "seriesRanks", unfollowed := true, recurses := true, named := ["swath/series.all"], apart := false, laid := [("swath/series.all", laid_swath_series_all)] }
def SeriesRanksSaid : Prop := seriesRanksRow.holds Tryd.pinned (OpenSpec.ofChange seriesRanksSpec)

/-- ITS FALSE NEIGHBOUR: 'it returns false'. Refute it at one input. -/
def seriesRanksWrong : ChangeSpec := { name := "seriesRanks", fn := fun _ => fun
  | [d1, d2] => { results := [.lit (.bool false)], args := [d1, d2] }
  | _ => none }
def SeriesRanksWrongFalsely : Prop := seriesRanksRow.holds Tryd.pinned (OpenSpec.ofChange seriesRanksWrong)

/- THE SECOND FORM. 'bulk': how many values and letters a reading holds, each counted each time it is reached (what is shared counts as often as it is met; a slice's spare places count too). A statement '..UptoSaid' is the law's where the arguments, and the package variables that the reading takes, are together of bulk at most 1048576: NARROWER than '..Said'. Prove '..Said' where nothing that the law and all that it calls make is longer than what came in: it says more and counts as full. Else prove '..UptoSaid'. A law counts once. -/
mutual
def uptoBulk {H : Type} : DataW H → Nat
  | .lit (.string bytes) => bytes.length + 1
  | .lit _ => 1
  | .nil => 1
  | .ptr d => uptoBulk d + 1
  | .slice elems spare => uptoBulkAll elems + uptoBulkAll spare + 1
  | .agg parts => uptoBulkAll parts + 1
  | .iface _ d => uptoBulk d + 1
  | .map entries => uptoBulkEntries entries + 1
  | .held _ => 1
def uptoBulkAll {H : Type} : List (DataW H) → Nat
  | [] => 0
  | d :: r => uptoBulk d + uptoBulkAll r
def uptoBulkEntries {H : Type} : List (Lit × DataW H) → Nat
  | [] => 0
  | x :: r => uptoBulkEntry x + uptoBulkEntries r
def uptoBulkEntry {H : Type} : Lit × DataW H → Nat
  | (.string bytes, d) => bytes.length + uptoBulk d + 1
  | (_, d) => uptoBulk d + 1
 end
def uptoSmall : (H : Type) → List (DataW H) → Bool := fun _ ds => decide (uptoBulkAll ds ≤ 1048576)
def OpenSpec.upto (s : _root_.Go.ChangeSpec) : _root_.Go.OpenSpec := { _root_.Go.OpenSpec.ofChange s with cond := some uptoSmall }

/-- 'swathlaw08.SeriesNormal', WHERE WHAT IT READS IS OF BULK AT MOST 1048576: true; the input reads as it did. -/
def seriesNormalUptoRow : OpenClaim := { program := "ythgbincoppnpgaadoor", sum := "173648ccad0ec8d1ffea1c50450908dc820f34b1ff6fbc9841ca811ccd422bec", func := "swath/swathlaw08.SeriesNormal", spec := "seriesNormal", unfollowed := true, recurses := true, named := ["swath/series.all"], apart := false, laid := [("swath/series.all", laid_swath_series_all)], narrowed := true }
def SeriesNormalUptoSaid : Prop := seriesNormalUptoRow.holds Tryd.pinned (OpenSpec.upto seriesNormalSpec)

/-- 'swathlaw08.SeriesRanks', WHERE WHAT IT READS IS OF BULK AT MOST 1048576: true; the input reads as it did. -/
def seriesRanksUptoRow : OpenClaim := { program := "ythgbincoppnpgaadoor", sum := "173648ccad0ec8d1ffea1c50450908dc820f34b1ff6fbc9841ca811ccd422bec", func := "swath/swathlaw08.SeriesRanks", spec := "seriesRanks", unfollowed := true, recurses := true, named := ["swath/series.all"], apart := false, laid := [("swath/series.all", laid_swath_series_all)], narrowed := true }
def SeriesRanksUptoSaid : Prop := seriesRanksUptoRow.holds Tryd.pinned (OpenSpec.upto seriesRanksSpec)

end Rows
end Go.Proofs.YthgbincoppnpgaaDoor
